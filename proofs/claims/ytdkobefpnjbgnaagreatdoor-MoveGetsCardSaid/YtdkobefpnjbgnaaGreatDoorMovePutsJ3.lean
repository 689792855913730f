/- Part 3. -/
import Derived.Test.YtdkobefpnjbgnaaGreatDoorMovePutsJ2
import Derived.Deep.RegionLaw
import Derived.Maps.OwnSet
import Derived.Maps.RangeWalk
namespace Go.Proofs.YtdkobefpnjbgnaaGreatDoor
set_option linter.unusedVariables false
set_option maxHeartbeats 16000000
set_option maxRecDepth 100000
section
open Go Go.RowKit
def Rd(w:World)(g B:Nat)(l:List UInt8)(err:Nat):Prop:=∃A k c,Blk w g 146 #[.slice A k c,.int .i64 (err:Int)]∧Ub w B (.slice A k c) l
theorem Rd.later{w w':World}{g B:Nat}{l:List UInt8}{err:Nat}(h:Rd w g B l err)(hb:Below w.heap.size w w'):Rd w' g B l err:=by
 obtain⟨A,k,c,h1,h2⟩:=h;exact⟨A,k,c,h1.later hb,h2.later hb⟩
theorem Rd.lt{w:World}{g B:Nat}{l:List UInt8}{err:Nat}(h:Rd w g B l err):g<w.heap.size:=by
 obtain⟨A,k,c,h1,h2⟩:=h;exact h1.lt
theorem Rd.far{w:World}{g B:Nat}{l:List UInt8}{err:Nat}(h:Rd w g B l err){g':Nat}{t:TypeId}{cs:Array Value}(hb:Blk w g' t cs)(h1:t≠146)(h2:5≠t)(i:Nat)(u:Value):Rd (w.setCell ⟨g',i,none⟩ u) g B l err:=by
 obtain⟨A,k,c,h3,h4⟩:=h;exact⟨A,k,c,h3.far (p:=⟨g',i,none⟩) (fun e=>Blk.ne h3 hb (fun h=>h1 h.symm) e) _,h4.beside hb h2 (z0f _ _ _ _)⟩
theorem z8S(S:Nat→Prop)(v0:Value)(l:List UInt8)(w:World)(hl:l.length≤1099511627776)(hr:Bs S w v0 l):
 Calls Tryz.prog 38 #[v0] w fun e w'=>∃g,e= .returned (.pointer (some ⟨g,0,none⟩))∧w.heap.size≤g∧Rd w' g w.heap.size l 0∧Below w.heap.size w w':=by
 have HR:=zz hr;obtain⟨A,c,rfl,hlc,hcm,hA0,hA⟩:=hr.at;clear hA hr hA0;go_enter Tryz.func38,Tryz.ntmps38
 go_wp2_with (at_builtin;(refine z03 _ rfl (.tmp 3) (.tmp 4) z0Z rfl (Ob.made _ _ w.heap.size (Nat.le_refl _) (by simp)) (Sl.alloc1 HR.out _) rfl rfl (by simp;omega) (by simp) ?_);intro A1 k1 c1 w1 hown1 hg1 hat1)
 have hbl1:Below w.heap.size w w1:=z02 ((Below.refl _ _).alloc (Nat.le_refl _) _) (Ob.made _ _ w.heap.size (Nat.le_refl _) (by simp)) hg1 (by simp);have hs1:=hbl1.size;go_ret
 refine⟨w1.heap.size,rfl,hs1,⟨A1,k1,c1,Blk.new _ _ _,?_⟩,hbl1.alloc hs1 _⟩;exact(Ub.of_own (by simpa using hown1)).later ((Below.refl _ _).alloc (Nat.le_refl _) _)
theorem z3s(g B:Nat)(l:List UInt8)(err e0:Nat)(w:World)(hr:Rd w g B l err)(he:e0≤1000)(he2:err≤1000):
 Calls Tryz.prog 76 #[.pointer (some ⟨g,0,none⟩),.int .i64 e0] w fun e w'=>e= .returned (.bool false)∧Rd w' g B l (if err=0 then e0 else err)∧w.grownBy w' (some g):=by
 have HR:=zz hr;obtain⟨A,k,c,hb,hown⟩:=hr;have d1:w.cell? ⟨g,1,none⟩=some (.int .i64 (err:Int)):=hb.cell 1;have f1:=hb.free 1;by_cases h0:err=0
 ·subst h0;go_enter Tryz.func76,Tryz.ntmps76
  go_wp2_with fail
  go_ret
  exact⟨rfl,⟨A,k,c,hb.put 1 _,hown.beside hb (by decide) (z0f _ _ _ _)⟩,z0f _ _ _ _⟩
 ·have t0:((err:Int)==0)=false:=by rw [beq_eq_false_iff_ne];omega
  go_enter Tryz.func76,Tryz.ntmps76
  go_wp2_with fail
  go_ret
  exact⟨rfl,HR.out,World.grownBy.refl _ _⟩
def z8d(e:Nat):Nat:=if e=10 then 30 else e
theorem z6t:∀ (l:List UInt8) (i v er:Nat),z7C i v l= .error er→er=10∨er=12
 | [],i,v,er,h=>by rw [z7C]at h;cases h;exact .inl rfl
 |b::l,i,v,er,h=>by
  rw [z7C]at h
  split at h
  ·cases h;exact .inr rfl
  ·split at h
   ·cases h
   ·exact z6t l _ _ er h
theorem z6v(g B:Nat)(l:List UInt8)(err:Nat)(w:World)(hr:Rd w g B l err)(h0:err≠0):
 Calls Tryz.prog 75 #[.pointer (some ⟨g,0,none⟩)] w fun e w'=>e= .returned (.tuple #[.int .u64 0,.slice none 0 0,.bool false])∧w=w':=by
 obtain⟨A,k,c,hb,hown⟩:=hr;have d1:w.cell? ⟨g,1,none⟩=some (.int .i64 (err:Int)):=hb.cell 1;have t0:((err:Int) != 0)=true:=by rw [bne_iff_ne];omega
 clear hb hown;go_enter Tryz.func75,Tryz.ntmps75
 go_wp2_with fail
 go_ret3
 exact⟨rfl,rfl⟩
theorem z8k(g B:Nat)(l:List UInt8)(x n:Nat)(w:World)(hr:Rd w g B l 0)(hl:l.length≤1099511627776)(hg:z0S l= .ok (x,n)):
 Calls Tryz.prog 75 #[.pointer (some ⟨g,0,none⟩)] w fun e w'=>∃A k c,e= .returned (.tuple #[.int .u64 x,.slice A k c,.bool true])∧Ob 5 w' w.heap.size (.slice A k c) (l.drop n)∧Below w.heap.size w w':=by
 obtain⟨A,k,c,hb,hown⟩:=hr;have d0:w.cell? ⟨g,0,none⟩=some (.slice A k c):=hb.cell 0;have d1:w.cell? ⟨g,1,none⟩=some (.int .i64 0):=hb.cell 1;have HO:=zz hown;clear hb hown;go_enter Tryz.func75,Tryz.ntmps75
 go_wp2_with fail
 refine(z41 _ _ l w hl HO.out.bs).mono ?_;rintro e w1 ⟨hok,_⟩;obtain⟨A1,k1,c1,rfl,hown1,hbl1⟩:=hok x n hg;clear hok;go_wp2_with fail
 go_ret3
 exact⟨A1,k1,c1,rfl,hown1,hbl1⟩
theorem z79(g B:Nat)(l:List UInt8)(er:Nat)(w:World)(hr:Rd w g B l 0)(hl:l.length≤1099511627776)(hg:z0S l= .error er):
 Calls Tryz.prog 75 #[.pointer (some ⟨g,0,none⟩)] w fun e w'=>e= .returned (.tuple #[.int .u64 0,.slice none 0 0,.bool false])∧Rd w' g B l (z8d er)∧w.grownBy w' (some g):=by
 have HR:=zz hr;obtain⟨A,k,c,hb,hown⟩:=hr;have d0:w.cell? ⟨g,0,none⟩=some (.slice A k c):=hb.cell 0;have d1:w.cell? ⟨g,1,none⟩=some (.int .i64 0):=hb.cell 1;have HO:=zz hown;have hcase:=z6t l 0 0 er hg;clear hb hown;rcases hcase with rfl|rfl
 ·go_enter Tryz.func75,Tryz.ntmps75
  go_wp2_with fail
  refine(z41 _ _ l w hl HO.out.bs).mono ?_;rintro e w1 ⟨_,herr⟩;obtain⟨rfl,hbl1⟩:=herr _ hg;have HR1:=zz (HR.out.later hbl1);clear herr;go_wp2_with fail
  refine(z3s g B l 0 30 w1 HR1.out (by omega) (by omega)).mono ?_;rintro e w2 ⟨rfl,hr2,hg2⟩;go_wp2_with fail
  go_ret3
  exact⟨rfl,hr2,(z0N hbl1 _).trans hg2⟩
 ·go_enter Tryz.func75,Tryz.ntmps75
  go_wp2_with fail
  refine(z41 _ _ l w hl HO.out.bs).mono ?_;rintro e w1 ⟨_,herr⟩;obtain⟨rfl,hbl1⟩:=herr _ hg;have HR1:=zz (HR.out.later hbl1);clear herr;go_wp2_with fail
  refine(z3s g B l 0 12 w1 HR1.out (by omega) (by omega)).mono ?_;rintro e w2 ⟨rfl,hr2,hg2⟩;go_wp2_with fail
  go_ret3
  exact⟨rfl,hr2,(z0N hbl1 _).trans hg2⟩
def z0I(l:List UInt8)(err:Nat)(most:Int):Nat×List UInt8×Nat:=
 if err≠0 then(0,l,err)else match z0S l with
  | .error er=>(0,l,z8d er)
  | .ok (x,n)=>if most<(x:Int)then(0,l,32)else(x,l.drop n,0)
theorem z3v{l:List UInt8}{er:Nat}(h:z0S l= .error er):z8d er≤1000∧z8d er≠0:=by
 rcases z6t l 0 0 er h with rfl|rfl<;>decide
def z5f(g:Nat):Value:= .func (Fn.func 75) #[.pointer (some ⟨g,0,none⟩)] #[]
theorem z8M(g B:Nat)(l:List UInt8)(x n:Nat)(most:Int)(w:World)(hr:Rd w g B l 0)(hl:l.length≤1099511627776)(hg:z0S l= .ok (x,n))(hm:most≤9223372036854775807)(hx:(x:Int)≤most):
 Calls Tryz.prog 74 #[.pointer (some ⟨g,0,none⟩),z5f g,.int .i64 most] w fun e w'=>∃A k c,e= .returned (.tuple #[.int .i64 x,.slice A k c,.bool true])∧Ob 5 w' w.heap.size (.slice A k c) (l.drop n)∧Below w.heap.size w w':=by
 obtain⟨m,rfl⟩:∃m:Nat,most=(m:Int):=⟨most.toNat,by omega⟩;have hxm:x≤m:=by omega
 unfold z5f;have HT:=zz (z8k g B l x n w hr hl hg);clear hr hg;go_enter Tryz.func74,Tryz.ntmps74
 go_wp2_with fail
 refine HT.out.mono ?_;rintro e w1 ⟨A1,k1,c1,rfl,hown1,hbl1⟩;have t0:decide (m<x)=false:=by rw [decide_eq_false_iff_not];omega
 go_wp2_with fail
 go_ret3
 exact⟨A1,k1,c1,rfl,hown1,hbl1⟩
theorem z9T(g B:Nat)(l:List UInt8)(x n:Nat)(most:Int)(w:World)(hr:Rd w g B l 0)(hl:l.length≤1099511627776)(hg:z0S l= .ok (x,n))(hm:most≤9223372036854775807)(hm2: -9223372036854775808≤most)(hx:most<(x:Int)):
 Calls Tryz.prog 74 #[.pointer (some ⟨g,0,none⟩),z5f g,.int .i64 most] w fun e w'=>e= .returned (.tuple #[.int .i64 0,.slice none 0 0,.bool false])∧Rd w' g B l 32∧w.grownBy w' (some g):=by
 unfold z5f;have HT:=zz (z8k g B l x n w hr hl hg);have HR:=zz hr;have hx64:=(z1X hg).1;clear hr hg;by_cases h0:most<0
 ·go_enter Tryz.func74,Tryz.ntmps74
  go_wp2_with fail
  refine HT.out.mono ?_;rintro e w1 ⟨A1,k1,c1,rfl,hown1,hbl1⟩;have HR1:=zz (HR.out.later hbl1);go_wp2_with fail
  refine(z3s g B l 0 32 w1 HR1.out (by omega) (by omega)).mono ?_;rintro e w2 ⟨rfl,hr2,hg2⟩;go_wp2_with fail
  go_ret3
  exact⟨rfl,hr2,(z0N hbl1 _).trans hg2⟩
 ·obtain⟨m,rfl⟩:∃m:Nat,most=(m:Int):=⟨most.toNat,by omega⟩;have hxm:m<x:=by omega
  go_enter Tryz.func74,Tryz.ntmps74
  go_wp2_with fail
  refine HT.out.mono ?_;rintro e w1 ⟨A1,k1,c1,rfl,hown1,hbl1⟩;have t0:decide (m<x)=true:=by rw [decide_eq_true_eq];omega
  have HR1:=zz (HR.out.later hbl1);go_wp2_with fail
  refine(z3s g B l 0 32 w1 HR1.out (by omega) (by omega)).mono ?_;rintro e w2 ⟨rfl,hr2,hg2⟩;go_wp2_with fail
  go_ret3
  exact⟨rfl,hr2,(z0N hbl1 _).trans hg2⟩
theorem z5s(g B:Nat)(l:List UInt8)(most:Int)(w:World)(err err':Nat)
 (ht:Calls Tryz.prog 75 #[.pointer (some ⟨g,0,none⟩)] w fun e w'=>e= .returned (.tuple #[.int .u64 0,.slice none 0 0,.bool false])∧Rd w' g B l err'∧w.grownBy w' (some g)):
 Calls Tryz.prog 74 #[.pointer (some ⟨g,0,none⟩),z5f g,.int .i64 most] w fun e w'=>e= .returned (.tuple #[.int .i64 0,.slice none 0 0,.bool false])∧Rd w' g B l err'∧w.grownBy w' (some g):=by
 unfold z5f;have HT:=zz ht;clear ht;go_enter Tryz.func74,Tryz.ntmps74
 go_wp2_with fail
 refine HT.out.mono ?_;rintro e w1 ⟨rfl,hr1,hg1⟩;go_wp2_with fail
 go_ret3
 exact⟨rfl,hr1,hg1⟩
theorem z4e(g B:Nat)(l:List UInt8)(err:Nat)(most:Int)(w:World)(hr:Rd w g B l err)(hB:B≤w.heap.size)(hl:l.length≤1099511627776)(hm:most≤9223372036854775807)(hm2: -9223372036854775808≤most):
 Calls Tryz.prog 41 #[.pointer (some ⟨g,0,none⟩),.int .i64 most] w fun e w'=>e= .returned (.int .i64 ((z0I l err most).1:Int))∧Rd w' g B (z0I l err most).2.1 (z0I l err most).2.2∧w.grownBy w' (some g):=by
 have hmf:=z0K Tryz.prog;have no:∀err',z0I l err most=(0,l,err')→(Calls Tryz.prog 74 #[.pointer (some ⟨g,0,none⟩),z5f g,.int .i64 most] w fun e w'=>e= .returned (.tuple #[.int .i64 0,.slice none 0 0,.bool false])∧Rd w' g B l err'∧w.grownBy w' (some g))→
  Calls Tryz.prog 41 #[.pointer (some ⟨g,0,none⟩),.int .i64 most] w fun e w'=>e= .returned (.int .i64 ((z0I l err most).1:Int))∧Rd w' g B (z0I l err most).2.1 (z0I l err most).2.2∧w.grownBy w' (some g):=by
  intro err' hrc hb;have HRC:=zz hrc;have HBL:=zz hb;clear hrc hb;go_enter Tryz.func41,Tryz.ntmps41
  go_wp2_with fail
  refine HBL.out.mono ?_;rintro e w1 ⟨rfl,hr1,hg1⟩;go_wp2_with fail
  go_ret
  rw [HRC.out];exact⟨rfl,hr1,hg1⟩
 by_cases h0:err=0
 ·subst h0;cases hgv:z0S l with
  |error er=>
   refine no (z8d er) (by unfold z0I;rw [if_neg (by simp),hgv]) ?_;exact z5s g B l most w 0 _ (z79 g B l er w hr hl hgv)
  |ok xn=>
   obtain⟨x,n⟩:=xn;by_cases hx:most<(x:Int)
   ·refine no 32 (by unfold z0I;rw [if_neg (by simp),hgv];simp only;rw [if_pos hx]) ?_;exact z9T g B l x n most w hr hl hgv hm hm2 hx
   ·have HRC:Hid (z0I l 0 most=(x,l.drop n,0)):=by unfold z0I;rw [if_neg (by simp),hgv];simp only;rw [if_neg hx];rfl
    have HBL:=zz (z8M g B l x n most w hr hl hgv hm (by omega));have HR:=zz hr;clear no hr;go_enter Tryz.func41,Tryz.ntmps41
    go_wp2_with fail
    refine HBL.out.mono ?_;rintro e w1 ⟨A1,k1,c1,rfl,hown1,hbl1⟩;obtain⟨A,k,c,hb1,_⟩:=HR.out.later hbl1;have d0:w1.cell? ⟨g,0,none⟩=some (.slice A k c):=hb1.cell 0;have f0:=hb1.free 0;go_wp2_with fail
    go_ret
    rw [HRC.out];exact⟨rfl,⟨A1,k1,c1,hb1.put 0 _,(Ub.of_own (hown1.lower hB)).beside hb1 (by decide) (z0f _ _ _ _)⟩,(z0N hbl1 _).trans (z0f _ _ _ _)⟩
 ·refine no err (by unfold z0I;rw [if_pos h0]) ?_;refine z5s g B l most w err err ((z6v g B l err w hr h0).mono ?_);rintro e w1 ⟨rfl,rfl⟩;exact⟨rfl,hr,World.grownBy.refl _ _⟩
def z1P(l:List UInt8)(err:Nat):Nat:=if err=0∧0<l.length then 31 else err
theorem zE8(g B:Nat)(l:List UInt8)(err:Nat)(w:World)(hr:Rd w g B l err)(hl:l.length≤1099511627776):
 Calls Tryz.prog 43 #[.pointer (some ⟨g,0,none⟩)] w fun e w'=>e= .returned (.int .i64 (z1P l err:Int))∧w=w':=by
 obtain⟨A,k,c,hb,hown⟩:=hr;have d0:w.cell? ⟨g,0,none⟩=some (.slice A k c):=hb.cell 0;have d1:w.cell? ⟨g,1,none⟩=some (.int .i64 (err:Int)):=hb.cell 1;obtain rfl:=hown.len;clear hb hown;by_cases h0:err=0
 ·subst h0;by_cases hz:0<l.length
  ·have HE:Hid (z1P l 0=31):=by unfold z1P;rw [if_pos ⟨rfl,hz⟩];rfl
   go_enter Tryz.func43,Tryz.ntmps43
   go_wp2_with fail
   go_ret
   rw [HE.out];exact⟨rfl,rfl⟩
  ·have HE:Hid (z1P l 0=0):=by unfold z1P;rw [if_neg (fun h=>hz h.2)];rfl
   go_enter Tryz.func43,Tryz.ntmps43
   go_wp2_with fail
   go_ret
   rw [HE.out];exact⟨rfl,rfl⟩
 ·have HE:Hid (z1P l err=err):=by unfold z1P;rw [if_neg (fun h=>h0 h.1)];rfl
  have t0:((err:Int)==0)=false:=by rw [beq_eq_false_iff_ne];omega
  clear h0;go_enter Tryz.func43,Tryz.ntmps43
  go_wp2_with fail
  go_ret
  rw [HE.out];exact⟨rfl,rfl⟩
end
section
open Go
def zBi(e:Nat):Nat:=if e=10 then 30 else e
def z0k(l:List UInt8)(err:Nat):Nat×List UInt8×Nat:=
 if err≠0 then(0,l,err)else match z0S l with
  | .error er=>(0,l,zBi er)
  | .ok (x,n)=>(x,l.drop n,0)
def z0H(l:List UInt8)(err:Nat):List UInt8×List UInt8×Nat:=
 if err≠0 then([],l,err)else match z0S l with
  | .error er=>([],l,zBi er)
  | .ok (x,n)=>if 65536<x then([],l,32)else if(l.drop n).length<x then([],l,30)else((l.drop n).take x,(l.drop n).drop x,0)
theorem zEn{x:Nat}(hx:x<U64)(s:List UInt8):z0k (z0A x++s) 0=(x,s,0):=by
 unfold z0k;rw [if_neg (by simp),z2S hx];simp
theorem z5W{t:List UInt8}(ht:t.length≤65536)(s:List UInt8):z0H (z0A t.length++(t++s)) 0=(t,s,0):=by
 unfold z0H;rw [if_neg (by simp),z2S (by unfold U64;omega)];simp only [List.drop_left];rw [if_neg (by omega),if_neg (by simp)];simp
def zAL(q:Nat)(t:List UInt8):List UInt8:=z0A q++(z0A t.length++t)
def zCz(q:Nat)(t:List UInt8):List UInt8:=zAL q t++beB (z49 (zAL q t)).toNat 4
def z6u(q:Nat)(t:List UInt8):List UInt8:=beB (zCz q t).length 4++zCz q t
def z0e(l:List UInt8):Option ((Nat×List UInt8)×Nat):=
 if l.length<4∨(l.drop 4).length<deB (l.take 4)then none
 else match z1g ((l.drop 4).take (deB (l.take 4)))with
  | .error _=>none
  | .ok f=>
    if(z0H (z0k f 0).2.1 (z0k f 0).2.2).2.2=0∧(z0H (z0k f 0).2.1 (z0k f 0).2.2).2.1= []∧(z0H (z0k f 0).2.1 (z0k f 0).2.2).1.length≤32768
    then some (((z0k f 0).1,(z0H (z0k f 0).2.1 (z0k f 0).2.2).1),4+deB (l.take 4))else none
theorem zGo{q:Nat}{t:List UInt8}(hq:q<U64)(ht:t.length≤32768):(zAL q t).length≤32800:=by
 unfold zAL;have h1:=z5C 9 q (Nat.lt_of_lt_of_le hq (by unfold U64;decide));have h2:=z5C 9 t.length (Nat.lt_of_le_of_lt ht (by decide));rw [List.length_append,List.length_append];omega
theorem zBo(q:Nat)(t:List UInt8):(zCz q t).length=(zAL q t).length+4:=by
 unfold zCz;rw [List.length_append,z0u]
theorem z8L(q:Nat)(t:List UInt8):(z6u q t).length=4+((zAL q t).length+4):=by
 unfold z6u;rw [List.length_append,z0u,zBo]
end
section
open Go Go.RowKit
theorem zFH(e:Nat):zBi e=z8d e:=rfl
theorem zCS(g B:Nat)(l:List UInt8)(err:Nat)(w:World)(hr:Rd w g B l err)(hB:B≤w.heap.size)(hl:l.length≤1099511627776):
 Calls Tryz.prog 40 #[.pointer (some ⟨g,0,none⟩)] w fun e w'=>e= .returned (.int .u64 ((z0k l err).1:Int))∧Rd w' g B (z0k l err).2.1 (z0k l err).2.2∧w.grownBy w' (some g):=by
 have no:∀err',z0k l err=(0,l,err')→(Calls Tryz.prog 75 #[.pointer (some ⟨g,0,none⟩)] w fun e w'=>e= .returned (.tuple #[.int .u64 0,.slice none 0 0,.bool false])∧Rd w' g B l err'∧w.grownBy w' (some g))→
  Calls Tryz.prog 40 #[.pointer (some ⟨g,0,none⟩)] w fun e w'=>e= .returned (.int .u64 ((z0k l err).1:Int))∧Rd w' g B (z0k l err).2.1 (z0k l err).2.2∧w.grownBy w' (some g):=by
  intro err' hrc hb;have HRC:=zz hrc;have HBL:=zz hb;clear hrc hb;go_enter Tryz.func40,Tryz.ntmps40
  go_wp2_with fail
  refine HBL.out.mono ?_;rintro e w1 ⟨rfl,hr1,hg1⟩;go_wp2_with fail
  go_ret
  rw [HRC.out];exact⟨rfl,hr1,hg1⟩
 by_cases h0:err=0
 ·subst h0;cases hgv:z0S l with
  |error er=>
   exact no (z8d er) (by unfold z0k;rw [if_neg (by simp),hgv];rfl) (z79 g B l er w hr hl hgv)
  |ok xn=>
   obtain⟨x,n⟩:=xn;have HRC:Hid (z0k l 0=(x,l.drop n,0)):=by unfold z0k;rw [if_neg (by simp),hgv];rfl
   have HBL:=zz (z8k g B l x n w hr hl hgv);have HR:=zz hr;clear no hr;go_enter Tryz.func40,Tryz.ntmps40
   go_wp2_with fail
   refine HBL.out.mono ?_;rintro e w1 ⟨A1,k1,c1,rfl,hown1,hbl1⟩;obtain⟨A,k,c,hb1,_⟩:=HR.out.later hbl1;have d0:w1.cell? ⟨g,0,none⟩=some (.slice A k c):=hb1.cell 0;have f0:=hb1.free 0;go_wp2_with fail
   go_ret
   rw [HRC.out];exact⟨rfl,⟨A1,k1,c1,hb1.put 0 _,(Ub.of_own (hown1.lower hB)).beside hb1 (by decide) (z0f _ _ _ _)⟩,(z0N hbl1 _).trans (z0f _ _ _ _)⟩
 ·refine no err (by unfold z0k;rw [if_pos h0]) ((z6v g B l err w hr h0).mono ?_);rintro e w1 ⟨rfl,rfl⟩;exact⟨rfl,hr,World.grownBy.refl _ _⟩
theorem z8N(g B:Nat)(l:List UInt8)(w:World)(err':Nat)
 (hb:Calls Tryz.prog 74 #[.pointer (some ⟨g,0,none⟩),z5f g,.int .i64 65536] w fun e w'=>e= .returned (.tuple #[.int .i64 0,.slice none 0 0,.bool false])∧Rd w' g B l err'∧w.grownBy w' (some g)):
 Calls Tryz.prog 39 #[.pointer (some ⟨g,0,none⟩)] w fun e w'=>e= .returned (.string (st []))∧Rd w' g B l err'∧w.grownBy w' (some g):=by
 have hmf:=z0K Tryz.prog;have HBL:=zz hb;clear hb;go_enter Tryz.func39,Tryz.ntmps39
 go_wp2_with fail
 refine HBL.out.mono ?_;rintro e w1 ⟨rfl,hr1,hg1⟩;go_wp2_with fail
 go_ret
 exact⟨rfl,hr1,hg1⟩
theorem zAc(g B:Nat)(l:List UInt8)(x n:Nat)(w:World)(hr:Rd w g B l 0)(hl:l.length≤1099511627776)(hg:z0S l= .ok (x,n))(hx:x≤65536)(hs:(l.drop n).length<x):
 Calls Tryz.prog 39 #[.pointer (some ⟨g,0,none⟩)] w fun e w'=>e= .returned (.string (st []))∧Rd w' g B l 30∧w.grownBy w' (some g):=by
 have hmf:=z0K Tryz.prog;have HBL:=zz (z8M g B l x n 65536 w hr hl hg (by omega) (by omega));have HR:=zz hr;clear hr;generalize l.drop n=m at*;go_enter Tryz.func39,Tryz.ntmps39
 go_wp2_with fail
 refine HBL.out.mono ?_;rintro e w1 ⟨A1,k1,c1,rfl,hown1,hbl1⟩;obtain rfl:=hown1.len;have HR1:=zz (HR.out.later hbl1);have t0:decide (m.length<x)=true:=by rw [decide_eq_true_eq];exact hs
 go_wp2_with fail
 refine(z3s g B l 0 30 w1 HR1.out (by omega) (by omega)).mono ?_;rintro e w2 ⟨rfl,hr2,hg2⟩;go_wp2_with fail
 go_ret
 exact⟨rfl,hr2,(z0N hbl1 _).trans hg2⟩
theorem zGL(g B:Nat)(l:List UInt8)(x n:Nat)(w:World)(hr:Rd w g B l 0)(hB:B≤w.heap.size)(hl:l.length≤1099511627776)(hg:z0S l= .ok (x,n))(hx:x≤65536)(hs:¬ (l.drop n).length<x):
 Calls Tryz.prog 39 #[.pointer (some ⟨g,0,none⟩)] w fun e w'=>e= .returned (.string (st ((l.drop n).take x)))∧Rd w' g B ((l.drop n).drop x) 0∧w.grownBy w' (some g):=by
 have hmf:=z0K Tryz.prog;have HBL:=zz (z8M g B l x n 65536 w hr hl hg (by omega) (by omega));have HR:=zz hr;have hll:(l.drop n).length≤1099511627776:=by rw [List.length_drop];omega
 clear hr;generalize l.drop n=m at*;go_enter Tryz.func39,Tryz.ntmps39
 go_wp2_with fail
 refine HBL.out.mono ?_;rintro e w1 ⟨A1,k1,c1,rfl,hown1,hbl1⟩;obtain rfl:=hown1.len;obtain⟨A,k,c,hb1,_⟩:=HR.out.later hbl1;have d0:w1.cell? ⟨g,0,none⟩=some (.slice A k c):=hb1.cell 0;have f0:=hb1.free 0;have HB1:=zz hb1;have t0:decide (m.length<x)=false:=by rw [decide_eq_false_iff_not];exact hs
 have hxm:x≤m.length:=by omega
 clear hs hb1;rcases hown1.2 with⟨hv,hn⟩|⟨g1,cap,cur,hv,_,_,hnc,hcm,_⟩
 ·injection hv with hA _ hc
  subst hA hc;obtain rfl:m= []:=List.eq_nil_of_length_eq_zero hn;obtain rfl:x=0:=by simpa using hxm
  have cv:=z0i (P:=Tryz.prog) (Bs.nilv (fun _=>True) (w1.setCell ⟨g,0,none⟩ (.slice none 0 0))) tB tU tS;clear hown1;go_wp2_with fail
  go_ret
  exact⟨rfl,⟨none,0,0,HB1.out.put 0 _,Bs.nilv _ _⟩,(z0N hbl1 _).trans (z0f _ _ _ _)⟩
 ·injection hv with hA _ hc
  subst hA hc;have hu:=(Ub.of_own (hown1.lower hB)).beside HB1.out (by decide) (z0f w1 g 0 (.slice (if c1=x then some ⟨g1,0,none⟩else some ⟨g1,0+x,none⟩) (m.length-x) (c1-x)));have cv:=z0i (P:=Tryz.prog) (Bs.pre hu.bs hxm) tB tU tS;have hcut:Hid (Ub (w1.setCell ⟨g,0,none⟩ (.slice (if c1=x then some ⟨g1,0,none⟩else some ⟨g1,0+x,none⟩) (m.length-x) (c1-x))) B _ _):=Bs.cut hu hxm;clear hown1 hu;by_cases hcx:c1=x
  ·rw [if_pos hcx]at cv hcut;subst hcx;rw [Nat.sub_self,show m.length-c1=0 by omega]at cv hcut;go_wp2_with fail
   go_ret
   exact⟨rfl,⟨_,_,_,HB1.out.put 0 _,hcut⟩,(z0N hbl1 _).trans (z0f _ _ _ _)⟩
  ·rw [if_neg hcx,Nat.zero_add]at cv hcut;go_wp2_with fail
   go_ret
   exact⟨rfl,⟨_,_,_,HB1.out.put 0 _,hcut⟩,(z0N hbl1 _).trans (z0f _ _ _ _)⟩
theorem z3a(g B:Nat)(l:List UInt8)(err:Nat)(w:World)(hr:Rd w g B l err)(hB:B≤w.heap.size)(hl:l.length≤1099511627776):
 Calls Tryz.prog 39 #[.pointer (some ⟨g,0,none⟩)] w fun e w'=>e= .returned (.string (st (z0H l err).1))∧Rd w' g B (z0H l err).2.1 (z0H l err).2.2∧w.grownBy w' (some g):=by
 by_cases h0:err=0
 ·subst h0;cases hgv:z0S l with
  |error er=>
   have e:z0H l 0=([],l,z8d er):=by unfold z0H;rw [if_neg (by simp),hgv];rfl
   rw [e];exact z8N g B l w _ (z5s g B l 65536 w 0 _ (z79 g B l er w hr hl hgv))
  |ok xn=>
   obtain⟨x,n⟩:=xn;by_cases hx:65536<x
   ·have e:z0H l 0=([],l,32):=by unfold z0H;rw [if_neg (by simp),hgv];simp only;rw [if_pos hx]
    rw [e];exact z8N g B l w _ (z9T g B l x n 65536 w hr hl hgv (by omega) (by omega) (by omega))
   ·by_cases hs:(l.drop n).length<x
    ·have e:z0H l 0=([],l,30):=by unfold z0H;rw [if_neg (by simp),hgv];simp only;rw [if_neg hx,if_pos hs]
     rw [e];exact zAc g B l x n w hr hl hgv (by omega) hs
    ·have e:z0H l 0=((l.drop n).take x,(l.drop n).drop x,0):=by unfold z0H;rw [if_neg (by simp),hgv];simp only;rw [if_neg hx,if_neg hs]
     rw [e];exact zGL g B l x n w hr hB hl hgv (by omega) hs
 ·have e:z0H l err=([],l,err):=by unfold z0H;rw [if_pos h0]
  rw [e];refine z8N g B l w _ (z5s g B l 65536 w err err ((z6v g B l err w hr h0).mono ?_));rintro e w1 ⟨rfl,rfl⟩;exact⟨rfl,hr,World.grownBy.refl _ _⟩
def z1C(l:List UInt8)(err:Nat):Bool×List UInt8×Nat:=
 if err≠0 then(false,l,err)else match l with
  | []=>(false,[],30)
  |b::r=>if 1<b.toNat then(false,b::r,33)else(b.toNat==1,r,0)
theorem zCI(g B gb:Nat)(l:List UInt8)(e0:Nat)(w:World)(hr:Rd w g B l 0)(he:e0≤1000)(hb:Blk w gb 81 #[.pointer (some ⟨g,0,none⟩)]):
 Calls Tryz.prog 77 #[.int .i64 e0,.pointer (some ⟨gb,0,none⟩)] w fun e w'=>e= .returned (.bool false)∧Rd w' g B l e0∧w.grownBy w' (some g):=by
 have c0:w.cell? ⟨gb,0,none⟩=some (.pointer (some ⟨g,0,none⟩)):=hb.cell 0;have HC:=zz (z3s g B l 0 e0 w hr he (by omega));clear hb hr;go_enter Tryz.func77,Tryz.ntmps77
 go_wp2_with fail
 refine HC.out.mono ?_;rintro e w1 ⟨rfl,hr1,hg1⟩;go_wp2_with fail
 go_ret
 exact⟨rfl,hr1,hg1⟩
theorem zAz(n:Nat):(((n:Int))==1)=(n==1):=by
 rw [Bool.eq_iff_iff,beq_iff_eq,beq_iff_eq];omega
theorem z7l{w w':World}{row:Option Nat}(h:w.grownBy w' row):w.grownBy w'.drew row:=⟨h.os,h.tape,h.output,h.size,h.block⟩
theorem z9x(g B:Nat)(l:List UInt8)(err:Nat)(w:World)(hr:Rd w g B l err)(hB:B≤w.heap.size)(hl:l.length≤1099511627776):
 Calls Tryz.prog 42 #[.pointer (some ⟨g,0,none⟩)] w fun e w'=>e= .returned (.bool (z1C l err).1)∧Rd w' g B (z1C l err).2.1 (z1C l err).2.2∧w.grownBy w' (some g):=by
 have hmf:=z0K Tryz.prog;have hnb:=Blk.new w 81 #[.pointer (some ⟨g,0,none⟩)];have hgl:=hr.lt;have hrl:=hr.later ((Below.refl _ _).alloc (Nat.le_refl _) (.cells #[.pointer (some ⟨g,0,none⟩)] 81));have hgr:w.grownBy (w.alloc (.cells #[.pointer (some ⟨g,0,none⟩)] 81)) (some g):=z0N ((Below.refl _ _).alloc (Nat.le_refl _) _) _;have p0:(w.alloc (.cells #[.pointer (some ⟨g,0,none⟩)] 81)).cell? ⟨w.heap.size,0,none⟩=some (.pointer (some ⟨g,0,none⟩)):=hnb.cell 0;obtain⟨A,k,c,hb,hub⟩:=id hrl;have d0:(w.alloc (.cells #[.pointer (some ⟨g,0,none⟩)] 81)).cell? ⟨g,0,none⟩=some (.slice A k c):=hb.cell 0;have d1:(w.alloc (.cells #[.pointer (some ⟨g,0,none⟩)] 81)).cell? ⟨g,1,none⟩=some (.int .i64 (err:Int)):=hb.cell 1;have f0:=hb.free 0;have f1:=hb.free 1;obtain rfl:=hub.len;have HU:=zz hub;have HBK:=zz hb;have HRL:=zz hrl;clear hr hub hb hrl;by_cases h0:err=0
 ·subst h0;rcases l with _|⟨x,l⟩
  ·have HV:Hid (z1C [] 0=(false,[],30)):=by unfold z1C;rw [Hid,if_neg (by simp)]
   have HC:=zz (zCI g B w.heap.size [] 30 _ HRL.out (by omega) hnb);go_enter Tryz.func42,Tryz.ntmps42
   go_wp2_with fail
   refine HC.out.mono ?_;rintro e w1 ⟨rfl,hr1,hg1⟩;go_wp2_with fail
   go_ret
   rw [HV.out];exact⟨rfl,hr1,hgr.trans hg1⟩
  ·obtain⟨A',c',hv,hlc,hcm,_,hcell⟩:=Bs.at HU.out;injection hv with hA _ hc
   subst hA hc;obtain⟨b,o,rfl,hS,hcc⟩:=hcell (by simp);have cx:(w.alloc (.cells #[.pointer (some ⟨g,0,none⟩)] 81)).cell? ⟨b,o,none⟩=some (.int .u8 (x.toNat:Int)):=by
    have:=hcc 0 (by simp);simpa using this
   have hlen:(x::l).length=l.length+1:=rfl;have hxb:=x.toNat_lt;have HCUT:Hid (Ub (w.alloc (.cells #[.pointer (some ⟨g,0,none⟩)] 81)) B _ _):=Bs.cut HU.out (show 1≤(x::l).length by simp);rw [hlen]at d0 hlc;have HLEN:=zz hlen;clear hcell hcc hlen;by_cases hx:1<x.toNat
   ·have HV:Hid (z1C (x::l) 0=(false,x::l,33)):=by unfold z1C;rw [Hid,if_neg (by simp)];simp only;rw [if_pos hx]
    have HC:=zz (zCI g B w.heap.size (x::l) 33 _ HRL.out (by omega) hnb);go_enter Tryz.func42,Tryz.ntmps42
    go_wp2_with fail
    refine HC.out.mono ?_;rintro e w1 ⟨rfl,hr1,hg1⟩;go_wp2_with fail
    go_ret
    rw [HV.out];exact⟨rfl,hr1,hgr.trans hg1⟩
   ·have HV:Hid (z1C (x::l) 0=(x.toNat==1,l,0)):=by unfold z1C;rw [Hid,if_neg (by simp)];simp only;rw [if_neg hx]
    rw [HLEN.out,Nat.add_sub_cancel,List.drop_succ_cons,List.drop_zero]at HCUT;by_cases hc1:c=1
    case' pos=>
     rw [if_pos hc1]at HCUT;subst hc1;have hl0:l.length=0:=by omega
     rw [hl0]at HCUT
    case' neg=>
     rw [if_neg hc1]at HCUT
    all_goals
     go_enter Tryz.func42,Tryz.ntmps42
     go_wp2_with fail
     generalize w.alloc (.cells #[.pointer (some ⟨g,0,none⟩)] 81)=W at*;go_region
     all_goals
      go_wp2_with fail
      go_ret
      rw [HV.out];exact⟨by simp only [zAz];rfl,⟨_,_,_,Blk.drew (HBK.out.put 0 _),(Ub.beside HCUT HBK.out (by decide) (z7l (z0f _ _ _ _)))⟩,hgr.trans (z7l (z0f _ _ _ _))⟩
 ·have HV:Hid (z1C l err=(false,l,err)):=by unfold z1C;rw [Hid,if_pos h0]
  have t0:((err:Int) != 0)=true:=by rw [bne_iff_ne];omega
  clear h0;go_enter Tryz.func42,Tryz.ntmps42
  go_wp2_with fail
  go_ret
  rw [HV.out];exact⟨rfl,HRL.out,hgr⟩
theorem zHq(l:List UInt8)(h:4≤l.length):(l.take (l.length-4)++beB (z49 (l.take (l.length-4))).toNat 4=l)↔deB ((l.drop (l.length-4)).take 4)=(z49 (l.take (l.length-4))).toNat:=by
 have hd:(l.drop (l.length-4)).length=4:=by rw [List.length_drop];omega
 have ht:(l.drop (l.length-4)).take 4=l.drop (l.length-4):=List.take_of_length_le (by omega);rw [ht];constructor
 ·intro he;have:l.drop (l.length-4)=beB (z49 (l.take (l.length-4))).toNat 4:=by
   have h2:l.take (l.length-4)++beB (z49 (l.take (l.length-4))).toNat 4=l.take (l.length-4)++l.drop (l.length-4):=by rw [he,List.take_append_drop]
   exact(List.append_cancel_left h2).symm
  rw [this,z71 4 _ (sum4 _)]
 ·intro he;have:=zJZ (l.drop (l.length-4));rw [hd]at this;rw [←he,this,List.take_append_drop]
def zGb(l:List UInt8)(w:World)(e:Ending)(w':World):Prop:=
 (∀b,z1g l= .ok b→∃A k c,e= .returned (.tuple #[.slice A k c,.int .i64 0])∧Ob 5 w' w.heap.size (.slice A k c) b)∧
 (∀er,z1g l= .error er→e= .returned (.tuple #[.slice none 0 0,.int .i64 (er:Int)]))∧Below w.heap.size w w'
theorem z8R(S:Nat→Prop)(v0:Value)(l:List UInt8)(w:World)(hl:l.length≤1099511627776)(hr:Bs S w v0 l):
 Calls Tryz.prog 173 #[v0] w (zGb l w):=by
 have HR:=zz hr;have HR2:Hid (Bs (fun b=>b<w.heap.size) w v0 l):=(Sl.lt hr (by omega)).more (fun _ h=>h.2);obtain⟨A,c,rfl,hlc,hcm,hA0,hA⟩:=hr.at;by_cases h4:l.length<4
 ·clear hA hr hA0;have HO:Hid (z1g l= .error 20):=by unfold z1g;rw [if_pos h4];rfl
  go_enter Tryz.func173,Tryz.ntmps173
  go_wp2_with fail
  go_ret2
  exact⟨fun b hb=>(by rw [HO.out]at hb;cases hb),fun er her=>(by rw [HO.out]at her;cases her;rfl),Below.refl _ _⟩
 ·obtain⟨b,o,rfl,_,_⟩:=hA (by omega);clear hA hA0;have h4':4≤l.length:=by omega
  have HI:=zz (zHq l h4');have hn4:(l.drop (l.length-4)).length=4:=by rw [List.length_drop];omega
  have hc1:=Bs.pre hr (Nat.sub_le l.length 4);have HC1:=zz hc1;have hc2:Bs (fun b=>b<w.heap.size) w (.slice (some ⟨b,o+(l.length-4),none⟩) 4 (c-(l.length-4))) (l.drop (l.length-4)):=by
   have h:=Bs.cut HR2.out (Nat.sub_le l.length 4);rw [if_neg (by omega),show l.length-(l.length-4)=4 from by omega]at h;exact h
  have HC2:=zz hc2;have e4:l.length-(l.length-4)=4:=by omega
  have E4:=zz e4;have hlt:(l.take (l.length-4)).length=l.length-4:=by rw [List.length_take];omega
  have HLT:=zz hlt;have HO:Hid (z1g l=if l.take (l.length-4)++beB (z49 (l.take (l.length-4))).toNat 4=l then .ok (l.take (l.length-4))else .error 21):=by unfold z1g;rw [if_neg h4];rfl
  have hne:¬c=l.length-4:=by omega
  have HN4:=zz hn4;clear hr hc1 hc2 h4 e4 hlt hn4;go_enter Tryz.func173,Tryz.ntmps173
  go_wp2_with (at_builtin;go_loud (refine z03 _ rfl (.tmp 11) (.tmp 16) z0Z rfl (Ob.made _ _ w.heap.size (Nat.le_refl _) (by simp)) (Sl.alloc1 HC1.out _) rfl rfl (by rw [HLT.out];simp;omega) (by simp) ?_);intro A1 k1 c1 w1 hown1 hg1 hat1)
  have hbl1:Below w.heap.size w w1:=z02 ((Below.refl _ _).alloc (Nat.le_refl _) _) (Ob.made _ _ w.heap.size (Nat.le_refl _) (by simp)) hg1 (by simp);have hs1:=hbl1.size;have hown1':Ob 5 w1 w.heap.size (.slice A1 k1 c1) (l.take (l.length-4)):=hown1;have HR1:Hid (Bs (fun b=>b<w.heap.size) w1 _ _):=Sl.below HC2.out hbl1 (fun _ h=>h);have HW1:=zz hown1';clear hown1 hg1 hat1 hown1';rw [E4.out];refine(zFq _ _ (l.drop (l.length-4)) 4 w1 (by omega) (by omega) (by rw [HN4.out];omega) (by rw [HN4.out];omega) HR1.out).mono ?_;rintro e w2 ⟨A2,k2,c2,rfl,_,hbl2⟩;have HW2:=zz (HW1.out.later hbl2);have hbl2':=hbl1.trans (hbl2.mono hs1);clear hbl2 hbl1;go_wp2_with fail
  refine(zIR _ _ (l.take (l.length-4)) w2 (by rw [HLT.out];omega) HW2.out.bs).mono ?_;rintro e w3 ⟨rfl,hbl3⟩;have HW3:=zz (HW2.out.later hbl3);have hbl3':=hbl2'.trans (hbl3.mono hbl2'.size);clear hbl3 hbl2';by_cases hd:deB ((l.drop (l.length-4)).take 4)=(z49 (l.take (l.length-4))).toNat
  ·have HO2:Hid (z1g l= .ok (l.take (l.length-4))):=by rw [Hid,HO.out,if_pos (HI.out.2 hd)]
   have HD:=zz hd;rw [hd];clear hd;go_wp2_with fail
   go_ret2
   exact⟨fun b hb=>(by rw [HO2.out]at hb;cases hb;exact⟨A1,k1,c1,rfl,HW3.out⟩),fun er her=>(by rw [HO2.out]at her;cases her),hbl3'⟩
  ·have HO2:Hid (z1g l= .error 21):=by rw [Hid,HO.out,if_neg (fun h=>hd (HI.out.1 h))]
   generalize deB ((l.drop (l.length-4)).take 4)=dv at*;have t1:((dv:Int)==((z49 (l.take (l.length-4))).toNat:Int))=false:=by rw [beq_eq_false_iff_ne];omega
   have t2:((dv:Int) != ((z49 (l.take (l.length-4))).toNat:Int))=true:=by rw [bne_iff_ne];omega
   clear hd HI;go_wp2_with fail
   go_ret2
   exact⟨fun b hb=>(by rw [HO2.out]at hb;cases hb),fun er her=>(by rw [HO2.out]at her;cases her;rfl),hbl3'⟩
def z1u:Nat→List UInt8×Nat→List Cel→List Cel×(List UInt8×Nat)
 |0,s,acc=>(acc,s)
 |n+1,s,acc=>z1u n (z0H (z0H s.1 s.2).2.1 (z0H s.1 s.2).2.2).2 (acc++ [((z0H s.1 s.2).1,(z0H (z0H s.1 s.2).2.1 (z0H s.1 s.2).2.2).1)])
def zJe(f:List UInt8):Option (Bool×Nat×List Cel):=
 match z1C f 0 with
 |(b,s1,e1)=>match z0I s1 e1 256 with
  |(n,s2,e2)=>match z0I s2 e2 2048 with
   |(c,s3,e3)=>match z1u c (s3,e3) []with
    |(cs,s4,e4)=>if z1P s4 e4=0∧z10 (n:Int) cs=0 then some (b,n,cs)else none
def z2g(l:List UInt8):Option (Bool×Nat×List Cel):=match z1g l with
 | .error _=>none
 | .ok f=>zJe f
theorem zDo{l:List UInt8}{er:Nat}(h:z1g l= .error er):er=20∨er=21:=by
 unfold z1g at h
 split at h
 ·cases h;exact .inl rfl
 ·split at h
  ·cases h
  ·cases h;exact .inr rfl
theorem zDB{l f:List UInt8}(h:z1g l= .ok f){m:Nat}(hm:l.length≤m):f.length≤m:=by
 unfold z1g at h
 split at h
 ·cases h
 ·split at h
  ·cases h;rw [List.length_take];omega
  ·cases h
theorem zDH{w w':World}{B:Nat}{e:TypeId}{size n:Nat}{v:Value}{xs:List Value}(h:w.ownsRow B e size v n xs){g:Nat}{t:TypeId}{cs:Array Value}(hb:Blk w g t cs)(hne:e≠t)(hg:w.grownBy w' (some g)):w'.ownsRow B e size v n xs:=by
 have hn:=z7x h hb hne;obtain⟨h1,h2⟩:=h;refine⟨h1,?_⟩;rcases h2 with h2|⟨g',cap,cur,hv,hB,hh,r⟩
 ·exact .inl h2
 ·refine .inr ⟨g',cap,cur,hv,hB,?_,r⟩;exact(hg.block g' (lt_of_block hh) (fun e=>hn (by rw [hv];simp [Value.ownBlock];injection e))).trans hh
theorem Rd.blk{w:World}{g B:Nat}{l:List UInt8}{err:Nat}(h:Rd w g B l err):∃cs,Blk w g 146 cs:=by
 obtain⟨A,k,c,h1,_⟩:=h;exact⟨_,h1⟩
theorem Co.beside{w w':World}{B:Nat}{v:Value}{cs:List Cel}(h:Co w B v cs){g B':Nat}{l:List UInt8}{err:Nat}(hr:Rd w g B' l err)(hg:w.grownBy w' (some g)):Co w' B v cs:=by
 obtain⟨_,hb⟩:=hr.blk;exact zDH h hb (by decide) hg
theorem z3z(l:List UInt8)(err m:Nat)(he:err≤1000):(z0I l err (m:Int)).1≤m∧(z0I l err (m:Int)).2.1.length≤l.length∧(z0I l err (m:Int)).2.2≤1000:=by
 unfold z0I
 split
 ·exact⟨Nat.zero_le _,Nat.le_refl _,he⟩
 ·split
  ·rename_i er hg;exact⟨Nat.zero_le _,Nat.le_refl _,(z3v hg).1⟩
  ·rename_i x n hg
   split
   ·exact⟨Nat.zero_le _,Nat.le_refl _,(show 32≤1000 by decide)⟩
   ·rename_i hx;exact⟨by simp only;omega,by simp only [List.length_drop];omega,Nat.zero_le _⟩
theorem zA9(l:List UInt8)(err:Nat)(he:err≤1000):(z1C l err).2.1.length≤l.length∧(z1C l err).2.2≤1000:=by
 unfold z1C
 split
 ·exact⟨Nat.le_refl _,he⟩
 ·rcases l with _|⟨b,l⟩
  ·exact⟨Nat.le_refl _,(show 30≤1000 by decide)⟩
  ·simp only
   split
   ·exact⟨Nat.le_refl _,(show 33≤1000 by decide)⟩
   ·exact⟨by simp,Nat.zero_le _⟩
theorem z4i(l:List UInt8){e:Nat}(he:e≤1000):(z0H l e).1.length≤65536∧(z0H l e).2.1.length≤l.length∧(z0H l e).2.2≤1000:=by
 unfold z0H
 split
 ·exact⟨by simp,Nat.le_refl _,he⟩
 ·split
  ·rename_i er hg;exact⟨by simp,Nat.le_refl _,(z3v hg).1⟩
  ·rename_i x n hg
   split
   ·exact⟨by simp,Nat.le_refl _,(show 32≤1000 by decide)⟩
   ·split
    ·exact⟨by simp,Nat.le_refl _,(show 30≤1000 by decide)⟩
    ·exact⟨by simp only [List.length_take];omega,by simp only [List.length_drop];omega,Nat.zero_le _⟩
theorem Sl.newcel{S:Nat→Prop}(w:World)(c:Cel){g:Nat}(hg:g=w.heap.size)(hS:S g):
 Sl S (w.alloc (.cells #[.string (st c.1),.string (st c.2)] 121)) 2 (.slice (some ⟨g,0,none⟩) 1 1) 1 (ccs [c]):=by
 subst hg;refine⟨by simp [ccs],_,1,rfl,by simp,by simp [maxLen],(fun h=>by cases h),fun _=>⟨_,0,rfl,hS,fun j v hu=> ?_⟩⟩;rw [World.cell?_alloc_new,Nat.zero_add];simpa [ccs]using hu
theorem z7S{P:Program}{w:World}{ops:Array Oper}{o:Oper}{a:Act}{K:Act→World→Prop}{Q:Exit→Act→World→Prop}{F:Prop}(w0:World)(hd:zGr w0 w)(hgd:o.guard=none)(s x:Operand){t e:TypeId}{z:Value}{size bytes:Nat}
 (E:Elem P t e z size bytes) (ho:o.op= .call {callee:= .builtin .append,args:= #[s,x],argTypes:= #[t,t]})
 {base:Nat} {v:Value} {n:Nat} {xs:List Value} (hown:w0.ownsRow base e size v n xs)
 {S:Nat→Prop} {u:Value} {m:Nat} {news:List Value} (hr:Sl S w0 size u m news) (hs:a.eval s=v) (hx:a.eval x=u) (h1:∀y∈news,y.oneCell'=true)
 (hlen:n+m≤maxLen) (hbytes:(n+m)*bytes≤140737488355328) (hbase:base≤w0.heap.size)
 (h:∀A k c w',w'.ownsRow base e size (.slice A k c) (n+m) (xs++news)→w0.grownBy w' v.ownBlock→K (a.put o.dst (.slice A k c)) w'):
 if Region.wanted o (yielded ops a.tmps)=true then Oper.wp P o a w K Q else F:=by
 have hw:Region.wanted o (yielded ops a.tmps)=true:=by simp [Region.wanted,hgd]
 rw [if_pos hw];obtain⟨d,rfl⟩:=hd;obtain⟨v',w',hrun,h2,h3,h4⟩:=z1b (P:=P) (w0.drewN d) E o.type hown (Sl.drewN hr d) h1 hlen hbytes hbase;obtain⟨A,k,c,rfl⟩:=z0p h2;unfold Oper.wp execOp;simp only [ho,resolve,invoke,builtin,Sem.run_bind,Sem.run_pure,Result.andThen_ok,List.map_toArray,List.map_cons,List.map_nil,hs,hx,hrun];exact h A k c w' h2 ⟨h3.os,h3.tape,h3.output,h3.size,h3.block⟩
theorem z99{c i:Nat}(h:i<c)(s:List UInt8×Nat)(acc:List Cel):z1u (c-i) s acc=z1u (c-(i+1)) (z0H (z0H s.1 s.2).2.1 (z0H s.1 s.2).2.2).2 (acc++ [((z0H s.1 s.2).1,(z0H (z0H s.1 s.2).2.1 (z0H s.1 s.2).2.2).1)]):=by
 rw [show c-i=c-(i+1)+1 by omega,z1u]
theorem Rd.keptCo{w w':World}{g B B':Nat}{l:List UInt8}{err:Nat}(h:Rd w g B l err){size n:Nat}{v:Value}{xs:List Value}(ho:w.ownsRow B' 121 size v n xs)(hg:w.grownBy w' v.ownBlock):Rd w' g B l err:=by
 obtain⟨A,k,c,h1,h2⟩:=h;refine⟨A,k,c,h1.kept ho hg (by decide),h2.keep fun b hb=> ?_⟩;obtain⟨_,cs,fz,hh⟩:=hb;refine hg.block b (lt_of_block hh) fun e=> ?_
 rcases ho.2 with⟨rfl,_⟩|⟨g',cap,cur,rfl,_,hh',_⟩
 ·cases e
 ·simp only [Value.ownBlock,Option.some.injEq]at e;subst e;rw [hh]at hh';injection hh' with hh'
  injection hh' with _ he
  exact absurd he (by decide)
structure OfSt(w wr:World)(gp g B:Nat)(b:Bool)(n:Nat)(sl:Value)(cs:List Cel)(l:List UInt8)(er:Nat):Prop where
 page:Blk wr gp 186 #[.bool b,.int .i64 (n:Int),sl]
 own:Co wr w.heap.size sl cs
 rd:Rd wr g B l er
 below:Below w.heap.size w wr
 room:B≤wr.heap.size
 few:cs.length≤2048∧∀c∈cs,c.1.length≤65536∧c.2.length≤65536
 lens:l.length≤1099511627776∧er≤1000
theorem zGc(S:Nat→Prop)(v0:Value)(l:List UInt8)(w:World)(hl:l.length≤1099511627776)(hr:Bs S w v0 l):
 Calls Tryz.prog 163 #[v0] w fun e w'=>(∀b n cs,z2g l=some (b,n,cs)→∃v,e= .returned (.tuple #[v,.int .i64 0])∧PgIs w.heap.size w' v b (n:Int) cs)∧
  (z2g l=none→e= .returned (.tuple #[.agg #[.bool false,.int .i64 0,.slice none 0 0],.int .i64 101]))∧Below w.heap.size w w':=by
 have HR:Hid (Bs (fun b=>b<w.heap.size) w v0 l):=(Sl.lt hr (by omega)).more (fun _ h=>h.2);have hb0:=Blk.new w 186 #[.bool false,.int .i64 0,.slice none 0 0];have q0:Below w.heap.size w (w.alloc (.cells #[.bool false,.int .i64 0,.slice none 0 0] 186)):=(Below.refl _ _).alloc (Nat.le_refl _) _;have hr0:=zz (Sl.alloc HR.out (fun _ h=>h) (.cells #[.bool false,.int .i64 0,.slice none 0 0] 186));have HO0:Hid (z2g l=match z1g l with| .error _=>none| .ok f=>zJe f):=rfl;clear hr;go_enter Tryz.func163,Tryz.ntmps163
 go_wp2_with fail
 generalize hW:w.alloc (.cells #[.bool false,.int .i64 0,.slice none 0 0] 186)=W at*;clear hW;refine(z8R (fun b=>b<w.heap.size) v0 l W hl hr0.out).mono ?_;rintro e w1 ⟨hok,her,hbl1⟩;have HB0:=zz hb0;have hWs:=hb0.lt;have hb1:=hb0.later hbl1;have q1:=q0.trans (hbl1.mono q0.size);cases ho:z1g l with
 |error er=>
  obtain rfl:=her _ ho;have HN:Hid (z2g l=none):=by rw [Hid,HO0.out,ho]
  have t1:((er:Int) != 0)=true:=by
   rw [bne_iff_ne];have:er=20∨er=21:=zDo ho;rcases this with rfl|rfl<;>decide
  have d0:w1.cell? ⟨w.heap.size,0,none⟩=some (.bool false):=hb1.cell 0;have d1:w1.cell? ⟨w.heap.size,1,none⟩=some (.int .i64 0):=hb1.cell 1;have d2:w1.cell? ⟨w.heap.size,2,none⟩=some (.slice none 0 0):=hb1.cell 2;have f0:=hb1.free 0;have f1:=hb1.free 1;have f2:=hb1.free 2;clear ho hok her HO0;go_wp2_with fail
  exact bodyPost_ret (z0O rfl _ _ w.heap.size rfl (hb1.put3 _ _ _) z1r) rfl ⟨fun b n cs h=>(by rw [HN.out]at h;cases h),fun _=>rfl,z0b q1 (Nat.le_refl _) _ _ _⟩
 |ok f=>
  obtain⟨A1,k1,c1,rfl,hown1⟩:=hok _ ho;have hfl:f.length≤1099511627776:=zDB ho hl;have HO1:Hid (z2g l=zJe f):=by rw [Hid,HO0.out,ho]
  have HF:=zz hown1;have hmf:=z0K Tryz.prog;clear ho hok her HO0 hown1;go_wp2_with fail
  refine(z8S _ _ f w1 hfl HF.out.bs).mono ?_;rintro e w2 ⟨g,rfl,hg2,hr2,hbl2⟩;have q2:Below W.heap.size W w2:=hbl1.trans (hbl2.mono hbl1.size);have HR2:=zz hr2;have hB1:=hbl1.size;have hB2:=hbl2.size;clear hr2 hbl2;go_wp2_with fail
  refine(z9x g w1.heap.size f 0 w2 HR2.out hB2 hfl).mono ?_;rintro e w3 ⟨rfl,hr3,hg3⟩;have hbd1:=zA9 f 0 (Nat.zero_le _);obtain⟨X1,hX1⟩:∃X,z1C f 0=X:=⟨_,rfl⟩;rw [hX1]at hr3 hbd1;rw [hX1];have HX1:=zz hX1;obtain⟨b,s1,e1⟩:=X1;simp only at hr3 hbd1 ⊢;have q3:Below W.heap.size W w3:=q2.trans (z0M hg3 (by omega) q2.size);have hB3:=hg3.size;have HR3:=zz hr3;clear hr3 hg3 hX1;go_wp2_with fail
  refine(z4e g w1.heap.size s1 e1 256 w3 HR3.out (by omega) (by omega) (by omega) (by omega)).mono ?_;rintro e w4 ⟨rfl,hr4,hg4⟩;have hbd2:=z3z s1 e1 256 hbd1.2;rw [show(((256:Nat)):Int)=256 from rfl]at hbd2;obtain⟨X2,hX2⟩:∃X,z0I s1 e1 256=X:=⟨_,rfl⟩;rw [hX2]at hr4 hbd2;rw [hX2];have HX2:=zz hX2;obtain⟨n,s2,e2⟩:=X2;simp only at hr4 hbd2 ⊢;have q4:Below W.heap.size W w4:=q3.trans (z0M hg4 (by omega) q3.size);have hB4:=hg4.size;have hgl4:g<w4.heap.size:=by obtain⟨_,h⟩:=hr4.blk;exact h.lt
  have hbp:=Blk.new w4 186 #[.bool b,.int .i64 (n:Int),.slice none 0 0];have hr5:=hr4.later ((Below.refl _ _).alloc (Nat.le_refl _) (.cells #[.bool b,.int .i64 (n:Int),.slice none 0 0] 186));have q5:=q4.alloc q4.size (.cells #[.bool b,.int .i64 (n:Int),.slice none 0 0] 186);have HR5:=zz hr5;have hsz5:w1.heap.size≤(w4.alloc (.cells #[.bool b,.int .i64 (n:Int),.slice none 0 0] 186)).heap.size:=by simp;omega
  clear hr4 hr5 hg4 hX2 HR3;go_wp2_with fail
  refine(z4e g w1.heap.size s2 e2 2048 _ HR5.out hsz5 (by omega) (by omega) (by omega)).mono ?_;rintro e w6 ⟨rfl,hr6,hg6⟩;have hbd3:=z3z s2 e2 2048 hbd2.2.2;rw [show(((2048:Nat)):Int)=2048 from rfl]at hbd3;obtain⟨X3,hX3⟩:∃X,z0I s2 e2 2048=X:=⟨_,rfl⟩;rw [hX3]at hr6 hbd3;rw [hX3];have HX3:=zz hX3;obtain⟨c,s3,e3⟩:=X3;simp only at hr6 hbd3 ⊢;have hgp:g≠w4.heap.size:=by omega
  have hbp6:=hbp.grown hg6 (by simpa using hgp);have q6:Below W.heap.size W w6:=q5.trans (z0M hg6 (by omega) q5.size);have R0:OfSt W w6 w4.heap.size g w1.heap.size b n (.slice none 0 0) [] s3 e3:=
   ⟨hbp6,Co.nil _ _,hr6,q6,Nat.le_trans hsz5 hg6.size,⟨Nat.zero_le _,fun c hc=>by cases hc⟩,by omega,hbd3.2.2⟩
  have HPG:Hid (z2g l=match z1u c (s3,e3) []with|(cs,s4,e4)=>if z1P s4 e4=0∧z10 (n:Int) cs=0 then some (b,n,cs)else none):=by
   rw [Hid,HO1.out];unfold zJe;rw [HX1.out];simp only;rw [HX2.out];simp only;rw [HX3.out]
  have hgp4:W.heap.size≤w4.heap.size:=q4.size;have hgW:W.heap.size≤g:=by omega
  have hc2048:=hbd3.1;have hn256:=hbd2.1;clear hr6 hg6 hX3 HR5 hbp hbp6 HX1 HX2 HX3 HO1 hbd1 hbd2 hbd3 q5;go_wp2_with fail
  go_loopw [28] (fun iv wr=>∃ (i:Nat) (sl:Value) (cs:List Cel) (lr:List UInt8) (er:Nat),iv= .int .i64 (i:Int)∧i≤c∧cs.length=i∧OfSt W wr w4.heap.size g w1.heap.size b n sl cs lr er∧Hid (z1u c (s3,e3) []=z1u (c-i) (lr,er) cs)) (fun iv _=>c-(intOf iv).toNat)
  case atStart=>exact⟨0,_,[],s3,e3,rfl,by omega,rfl,R0,rfl⟩
  case round=>
   obtain⟨i,sl,cs,lr,er,rfl,hi,hlen,hst,hrc⟩:=hrel;clear R0;by_cases hic:i<c
   ·subst hlen;have hlo:=hst.lens;have hT1:=fun(w':World) (h1:Rd w' g w1.heap.size lr er) (h2:w1.heap.size≤w'.heap.size)=>z3a g w1.heap.size lr er w' h1 h2 hlo.1
    have hk1:=z4i lr hlo.2;have hst2:=hrc.out.trans (z99 hic (lr,er) cs);simp only at hst2;obtain⟨X1,hX1⟩:∃X,z0H lr er=X:=⟨_,rfl⟩;rw [hX1]at hT1 hk1 hst2;obtain⟨k,l1,er1⟩:=X1;simp only at hT1 hk1 hst2;have hT2:=fun(w':World) (h1:Rd w' g w1.heap.size l1 er1) (h2:w1.heap.size≤w'.heap.size)=>z3a g w1.heap.size l1 er1 w' h1 h2 (by omega)
    have hk2:=z4i l1 hk1.2.2;obtain⟨X2,hX2⟩:∃X,z0H l1 er1=X:=⟨_,rfl⟩;rw [hX2]at hT2 hk2 hst2;obtain⟨v,l2,er2⟩:=X2;simp only at hT2 hk2 hst2;have HT1:=zz hT1;have HT2:=zz hT2;have HRC:=zz hst2;have HST:=zz hst;obtain⟨A0,k0,c0,rfl⟩:=z0p hst.own;obtain rfl:=z0V hst.own;have HF:=zz hst.few;have HLB:Hid (w1.heap.size≤wr.heap.size):=hst.room;have p2:wr.cell? ⟨w4.heap.size,2,none⟩=some (.slice A0 cs.length c0):=hst.page.cell 2;have hgne:¬g=w4.heap.size:=hgp;have hgne2:(some g:Option Nat)≠some w4.heap.size:=by simpa using hgp
    clear hT1 hT2 hst2 hst hrc hX1 hX2;go_wp2_with fail
    go_region_law (first
     |(go_simp;go_at_call 39;refine(HT2.out _ (by exact hr1) (by exact hBa)).mono ?_;rintro e wb ⟨rfl,hr2,hg2⟩;have hg2':wa.grownBy wb (some g):=⟨hg2.os,hg2.tape,hg2.output,hg2.size,hg2.block⟩;have hpb:=hpa.grown hg2' hgne2;have pb2:wb.cell? ⟨w4.heap.size,2,none⟩=some (.slice A0 cs.length c0):=hpb.cell 2;have hpx:=hpb.alloc (.cells #[.string (st k),.string (st v)] 121);have px2:(wb.alloc (.cells #[.string (st k),.string (st v)] 121)).cell? ⟨w4.heap.size,2,none⟩=some (.slice A0 cs.length c0):=hpx.cell 2;have hob:=hoa.beside hr1 hg2')
     |(go_simp;go_at_call 39;refine(HT1.out _ (by exact HST.out.rd) (by exact HLB.out)).mono ?_;rintro e wa ⟨rfl,hr1,hg1⟩;have hg1':wr.grownBy wa (some g):=⟨hg1.os,hg1.tape,hg1.output,hg1.size,hg1.block⟩;have hpa:=HST.out.page.grown hg1' hgne2;have pa2:wa.cell? ⟨w4.heap.size,2,none⟩=some (.slice A0 cs.length c0):=hpa.cell 2;have hoa:=HST.out.own.beside HST.out.rd hg1';have hBa:w1.heap.size≤wa.heap.size:=Nat.le_trans HLB.out hg1'.size)
     |(refine z7S (wb.alloc (.cells #[.string (st k),.string (st v)] 121)) (by first|exact⟨0,rfl⟩|exact⟨1,rfl⟩|exact⟨2,rfl⟩|exact⟨3,rfl⟩|exact⟨4,rfl⟩) rfl (.tmp 31) (.tmp 37) elemCel rfl (World.ownsRow.alloc hob _) (Sl.newcel (S:=fun _=>True) _ (k,v) rfl trivial) rfl rfl (z4K _) (by simp only [maxLen];omega) (by omega) ((Nat.le_trans HST.out.below.size (Nat.le_trans hg1'.size (Nat.le_trans hg2'.size (by simp))))) ?_;intro A5 k5 c5 w5 hown5 hg5;have hp5:=hpx.kept (World.ownsRow.alloc hob _) hg5 (by decide);have p5:w5.cell? ⟨w4.heap.size,2,none⟩=some (.slice A0 cs.length c0):=hp5.cell 2;have f5:=hp5.free 2;have hr5:=(hr2.later ((Below.refl _ _).alloc (Nat.le_refl _) (.cells #[.string (st k),.string (st v)] 121))).keptCo (World.ownsRow.alloc hob _) hg5))
    all_goals
     go_wp2_with fail
     go_roundw
     case rel=>
      obtain rfl:k5=cs.length+1:=z0V hown5;have hown6:Co w5 W.heap.size (.slice A5 (cs.length+1) c5) (cs++ [(k,v)]):=by
       unfold Co;rw [z1M,show(cs++ [(k,v)]).length=cs.length+1 by simp];exact hown5
      have hq5:Below W.heap.size W w5:=z02 ((((HST.out.below).trans (z0M hg1' hgW HST.out.below.size)).trans (z0M hg2' hgW (Nat.le_trans HST.out.below.size hg1'.size))).alloc (Nat.le_trans HST.out.below.size (Nat.le_trans hg1'.size hg2'.size)) (.cells #[.string (st k),.string (st v)] 121)) (World.ownsRow.alloc hob _) hg5 (Nat.le_trans HST.out.below.size (Nat.le_trans hg1'.size (Nat.le_trans hg2'.size (by simp))));refine⟨cs.length+1,_,cs++ [(k,v)],l2,er2,by go_num,by omega,by simp,⟨hp5.put 2 _,z1m hown6 hp5 (by decide) 2 _,hr5.far hp5 (by decide) (by decide) 2 _,hq5.setCell hgp4 _,by have h1:=hg2'.size;have h2:=hg5.size;simp at h2 ⊢;omega,⟨by simp;omega,fun x hx=> ?_⟩,⟨by omega,hk2.2.2⟩⟩,HRC.out⟩;rcases List.mem_append.1 hx with h|h
      ·exact HF.out.2 x h
      ·simp at h;subst h;exact⟨hk1.1,hk2.1⟩
     case measure=>simp [intOf];omega
   ·obtain rfl:i=c:=by omega
    have HE0:Hid (z2g l=if z1P lr er=0∧z10 (n:Int) cs=0 then some (b,n,cs)else none):=by
     have h:=hrc.out;rw [Nat.sub_self,z1u]at h;rw [Hid,HPG.out,h]
    have HST:=zz hst;obtain⟨A0,k0,c0,rfl⟩:=z0p hst.own;obtain rfl:=z0V hst.own;have qr:=q0.trans (hst.below.mono q0.size);have hbr:=HB0.out.later hst.below;have g0:wr.cell? ⟨w4.heap.size,0,none⟩=some (.bool b):=hst.page.cell 0;have g1:wr.cell? ⟨w4.heap.size,1,none⟩=some (.int .i64 (n:Int)):=hst.page.cell 1;have g2:wr.cell? ⟨w4.heap.size,2,none⟩=some (.slice A0 cs.length c0):=hst.page.cell 2;have hlo:=hst.lens;clear hst hrc HPG hlen;go_wp2_with fail
    refine(zE8 g w1.heap.size lr er wr HST.out.rd hlo.1).mono ?_;rintro e w7 ⟨rfl,rfl⟩;by_cases hE:z1P lr er=0
    ·rw [hE];have HE:=zz hE;clear hE;go_wp2_with fail
     refine(z7g _ b (n:Int) _ cs wr (by omega) ⟨by have:=HST.out.few.1;omega,HST.out.few.2⟩ HST.out.own.cs).mono ?_;rintro e w8 ⟨rfl,hbl8⟩;have q8:=qr.trans (hbl8.mono qr.size);have hb8:=hbr.later hbl8;have r0:w8.cell? ⟨w.heap.size,0,none⟩=some (.bool false):=hb8.cell 0;have r1:w8.cell? ⟨w.heap.size,1,none⟩=some (.int .i64 0):=hb8.cell 1;have r2:w8.cell? ⟨w.heap.size,2,none⟩=some (.slice none 0 0):=hb8.cell 2;have rf0:=hb8.free 0;have rf1:=hb8.free 1;have rf2:=hb8.free 2;have h0:=cell_later hbl8 g0;have h1:=cell_later hbl8 g1;have h2:=cell_later hbl8 g2;by_cases hC:z10 (n:Int) cs=0
     ·rw [hC];have HY:Hid (z2g l=some (b,n,cs)):=by rw [Hid,HE0.out,if_pos ⟨HE.out,hC⟩]
      clear hC HE0;go_wp2_with fail
      refine bodyPost_ret (z0O rfl _ _ w.heap.size rfl (hb8.put3 _ _ _) z1r) rfl ⟨fun b' n' cs' h=> ?_,fun h=>(by rw [HY.out]at h;cases h),z0b q8 (Nat.le_refl _) _ _ _⟩;rw [HY.out]at h;injection h with h
      injection h with h1 h
      injection h with h2 h3
      subst h1 h2 h3;exact⟨_,rfl,A0,c0,rfl,Cs.put3 (L:=W.heap.size) (Sl.below HST.out.own.cs hbl8 (fun _ h=>h.2)) (fun x h=>⟨h.1,Nat.lt_of_lt_of_le h.2 hbl8.size⟩) hWs q0.size _ _ _⟩
     ·have HN:Hid (z2g l=none):=by rw [Hid,HE0.out,if_neg (fun h=>hC h.2)]
      have t1:((z10 (n:Int) cs:Int) != 0)=true:=by rw [bne_iff_ne];omega
      generalize z10 (n:Int) cs=P at*;clear hC HE0;go_wp2_with fail
      exact bodyPost_ret (z0O rfl _ _ w.heap.size rfl (hb8.put3 _ _ _) z1r) rfl ⟨fun b n cs h=>(by rw [HN.out]at h;cases h),fun _=>rfl,z0b q8 (Nat.le_refl _) _ _ _⟩
    ·have HN:Hid (z2g l=none):=by rw [Hid,HE0.out,if_neg (fun h=>hE h.1)]
     have t1:((z1P lr er:Int) != 0)=true:=by rw [bne_iff_ne];omega
     have r0:wr.cell? ⟨w.heap.size,0,none⟩=some (.bool false):=hbr.cell 0;have r1:wr.cell? ⟨w.heap.size,1,none⟩=some (.int .i64 0):=hbr.cell 1;have r2:wr.cell? ⟨w.heap.size,2,none⟩=some (.slice none 0 0):=hbr.cell 2;have rf0:=hbr.free 0;have rf1:=hbr.free 1;have rf2:=hbr.free 2;generalize z1P lr er=P at*;clear hE HE0;go_wp2_with fail
     exact bodyPost_ret (z0O rfl _ _ w.heap.size rfl (hbr.put3 _ _ _) z1r) rfl ⟨fun b n cs h=>(by rw [HN.out]at h;cases h),fun _=>rfl,z0b qr (Nat.le_refl _) _ _ _⟩
theorem Sl.new2{S:Nat→Prop}(w:World)(e:TypeId)(u v:Value){g:Nat}(hg:g=w.heap.size)(hS:S g):Sl S (w.alloc (.cells #[u,v] e)) 1 (.slice (some ⟨g,0,none⟩) 2 2) 2 [u,v]:=by
 subst hg;refine⟨by simp,_,2,rfl,by simp,by simp [maxLen],(fun h=>by cases h),fun _=>⟨_,0,rfl,hS,fun j x hx=> ?_⟩⟩;rw [World.cell?_alloc_new,Nat.zero_add];simpa using hx
def z1N(b:Bool):List UInt8:=if b then [1]else [0]
theorem z6f(g B:Nat)(l:List UInt8)(b:Bool)(w:World)(hw:Wr w g B l)(hB:B≤w.heap.size)(hgB:B≤g)(hl:l.length≤1000000000):
 Calls Tryz.prog 35 #[.pointer (some ⟨g,0,none⟩),.bool b] w fun e w'=>e= .returned (.tuple #[])∧Wr w' g B (l++z1N b)∧w.grownBy w' (some g):=by
 have hgl:g<w.heap.size:=by obtain⟨A,k,c,h,_⟩:=hw;exact h.lt
 have HW:=zz hw;clear hw;cases b
 case' false=>
  have HF:Hid (z0A 0=z1N false):=by rw [Hid,z1e (by omega)];rfl
  have HC:=zz (z3r g B l [0] _ _ (HW.out.alloc (.cells #[.int .u64 0] 39)) (by simp;omega) hgB (by intro y hy;simp at hy;subst hy;unfold U64;omega) (by simp;omega) (Sl.new1 w _ _ rfl ⟨by omega,by simp⟩))
 case' true=>
  have HF:Hid (z0A 1=z1N true):=by rw [Hid,z1e (by omega)];rfl
  have HC:=zz (z3r g B l [1] _ _ (HW.out.alloc (.cells #[.int .u64 1] 39)) (by simp;omega) hgB (by intro y hy;simp at hy;subst hy;unfold U64;omega) (by simp;omega) (Sl.new1 w _ _ rfl ⟨by omega,by simp⟩))
 all_goals
  go_enter Tryz.func35,Tryz.ntmps35
  go_wp2_with fail
  refine HC.out.mono ?_;rintro e w1 ⟨rfl,hw1,hg1⟩;simp only [List.flatMap_cons,List.flatMap_nil,List.append_nil]at hw1;rw [HF.out]at hw1;go_wp2_with fail
  go_end0
  exact⟨rfl,hw1,(z0N ((Below.refl _ _).alloc (Nat.le_refl _) _) _).trans hg1⟩
def zDn(leaf:Bool)(next:Int)(cs:List Cel)(w:World)(e:Ending)(w':World):Prop:=
 (z10 next cs=0→∃A k c,e= .returned (.tuple #[.slice A k c,.int .i64 0])∧Ob 5 w' w.heap.size (.slice A k c) (z73 (pgF leaf next cs)))∧
 (z10 next cs≠0→e= .returned (.tuple #[.slice none 0 0,.int .i64 (z10 next cs:Int)]))∧Below w.heap.size w w'
theorem z67{next:Int}{cs:List Cel}(h:z10 next cs=0):0≤next∧next≤256∧z4W next cs≤2048:=by
 unfold z10 at h
 split at h
 ·cases h
 ·rename_i h1
  split at h
  ·rename_i h2;exact absurd h h2
  ·split at h
   ·cases h
   ·rename_i h3;omega
theorem z77(S:Nat→Prop)(leaf:Bool)(next:Int)(v0:Value)(cs:List Cel)(w:World)(hbit:BitsOk w)(hn: -9223372036854775808≤next∧next≤9223372036854775807)(hm:Mid cs)(hr:Cs S w v0 cs):
 Calls Tryz.prog 148 #[.agg #[.bool leaf,.int .i64 next,v0]] w (zDn leaf next cs w):=by
 have HR:=zz hr.lt;have hlt:=hr.lt;obtain⟨A,c,rfl,hlc,hcm,hA0,hA⟩:=hlt.at;have HA:=zz hA;have hb:=Blk.new w 186 #[.bool leaf,.int .i64 next,.slice A cs.length c];have q1:Below w.heap.size w (w.alloc (.cells #[.bool leaf,.int .i64 next,.slice A cs.length c] 186)):=(Below.refl _ _).alloc (Nat.le_refl _) _;have HRW:=zz (HR.out.up q1);have HBT:=zz hbit;clear hA hr hlt hbit;go_enter Tryz.func148,Tryz.ntmps148
 go_wp2_with fail
 generalize hW:w.alloc (.cells #[.bool leaf,.int .i64 next,.slice A cs.length c] 186)=W at*;have hWs:w.heap.size<W.heap.size:=hb.lt;clear hW;have HB:=zz hb;refine(z7g _ leaf next _ cs W hn hm HRW.out).mono ?_;rintro e w1 ⟨rfl,hbl1⟩;have qa1:=q1.trans (hbl1.mono q1.size);by_cases hok:z10 next cs=0
 ·obtain⟨h0,h256,hsz⟩:=z67 hok;have HOK:=zz hok;rw [hok];obtain⟨nn,rfl⟩:∃nn:Nat,next=(nn:Int):=⟨next.toNat,by omega⟩;have hFL:=zF3 leaf (nn:Int) cs;have HFL:Hid ((pgF leaf (nn:Int) cs).length≤2048):=by rw [Hid];omega
  have HPF:Hid (pgF leaf (nn:Int) cs=z1N leaf++(z0A nn++(z0A cs.length++cs.flatMap z2b))):=rfl;have HX:=zz hm.2;have hml:=hm.1;have hb1:=HB.out.later hbl1;have hpre:∀i,z0D (cs.take i)≤2048:=fun i=>by have:=zCD (cs:=cs) (i:=i);unfold z4W at hsz;omega
  have HPRE:=zz hpre;have hw1':IntKind.u64.wrap (nn:Int)=(nn:Int):=z0l (by omega) (by unfold U64;omega);have hw2':IntKind.u64.wrap (cs.length:Int)=(cs.length:Int):=z0l (by omega) (by unfold U64;omega);clear hok hFL hsz hpre hn;go_wp2_with fail
  refine(z3b w1).mono ?_;rintro e w2 ⟨rfl,hw2,hbl2,hs2⟩;have r2:Below W.heap.size W w2:=hbl1.trans (hbl2.mono hbl1.size);have hgW:=hbl1.size;generalize hG:w1.heap.size=G at*;clear hG;have hb2:=HB.out.later r2;have e0:w2.cell? ⟨w.heap.size,0,none⟩=some (.bool leaf):=hb2.cell 0;have HW2:=zz hw2;have hG2:G<w2.heap.size:=by omega
  clear hbl1 hbl2 hb1 hw2;go_wp2_with fail
  refine(z6f G G [] leaf w2 HW2.out (by omega) (Nat.le_refl _) (by simp)).mono ?_;rintro e w3 ⟨rfl,hw3,hg3⟩;rw [List.nil_append]at hw3;have r3:Below W.heap.size W w3:=r2.trans (z0M hg3 (by omega) r2.size);have hb3:=HB.out.later r3;have e1:w3.cell? ⟨w.heap.size,1,none⟩=some (.int .i64 (nn:Int)):=hb3.cell 1;have e2:w3.cell? ⟨w.heap.size,2,none⟩=some (.slice A cs.length c):=hb3.cell 2;have hG3:G<w3.heap.size:=Nat.lt_of_lt_of_le hG2 hg3.size;have HW3:=zz hw3;have hfl:(z1N leaf).length=1:=by cases leaf<;>rfl
  have hv1:=z06 (show nn<U64 by unfold U64;omega);have hv2:=z06 (show cs.length<U64 by unfold U64;omega);have hslx:Sl (fun b=>b≠G∧b<(w3.alloc (.cells #[.int .u64 (nn:Int),.int .u64 (cs.length:Int)] 39)).heap.size) (w3.alloc (.cells #[.int .u64 (nn:Int),.int .u64 (cs.length:Int)] 39)) 1 (.slice (some ⟨w3.heap.size,0,none⟩) 2 2) [nn,cs.length].length (zIN [nn,cs.length]):=Sl.new2 w3 _ _ _ rfl ⟨by omega,by simp⟩;have HSLX:=zz hslx;clear hg3 hw3 hslx HW2;go_wp2_with fail
  refine(z3r G G (z1N leaf) [nn,cs.length] _ _ (HW3.out.alloc _) (by simp;omega) (Nat.le_refl _) (by intro y hy;simp at hy;rcases hy with rfl|rfl<;>(unfold U64;omega)) (by simp;omega) HSLX.out).mono ?_;rintro e w4 ⟨rfl,hw4,hg4⟩;simp only [List.flatMap_cons,List.flatMap_nil,List.append_nil]at hw4;have r4:Below W.heap.size W w4:=(r3.alloc r3.size _).trans (z0M hg4 (by omega) (by have:=r3.size;simp;omega));have hb4:=HB.out.later r4;have e2':w4.cell? ⟨w.heap.size,2,none⟩=some (.slice A cs.length c):=hb4.cell 2;have hG4:G<w4.heap.size:=by have:=hg4.size;simp at this;omega
  have R0:Wr w4 G G (z1N leaf++(z0A nn++z0A cs.length)++(cs.take 0).flatMap z2b)∧Below W.heap.size W w4∧G<w4.heap.size:=⟨by simpa using hw4,r4,hG4⟩;clear hg4 hw4 HSLX HW3;go_wp2_with fail
  go_loopw [33] (fun iv wr=>∃i:Nat,iv= .int .i64 (i:Int)∧i≤cs.length∧Wr wr G G (z1N leaf++(z0A nn++z0A cs.length)++(cs.take i).flatMap z2b)∧Below W.heap.size W wr∧G<wr.heap.size) (fun iv _=>cs.length-(intOf iv).toNat)
  case atStart=>exact⟨0,rfl,by omega,R0⟩
  case round=>
   obtain⟨i,rfl,hi,hwr,hbl,hGr⟩:=hrel;clear R0;have hsz:=hbl.size;have qr:=q1.trans (hbl.mono q1.size);by_cases hil:i<cs.length
   ·obtain⟨b,o,rfl,hbs,hc⟩:=HA.out (by omega);have c0:wr.cell? ⟨b,o+i*2,none⟩=some (.string (st cs[i].1)):=(qr.cell (p:=⟨b,o+i*2,none⟩) hbs).trans (hc i hil).1;have c1:wr.cell? ⟨b,o+i*2+1,none⟩=some (.string (st cs[i].2)):=(qr.cell (p:=⟨b,o+i*2+1,none⟩) hbs).trans (hc i hil).2;have hx:=HX.out _ (List.getElem_mem hil);have HS:Hid ((cs.take (i+1)).flatMap z2b=(cs.take i).flatMap z2b++z2b cs[i]):=by
     rw [Hid,List.take_succ_eq_append_getElem hil,List.flatMap_append];simp
    have HLP:Hid (((cs.take i).flatMap z2b).length≤2048):=HPRE.out i;obtain⟨x,hx0⟩:∃x,cs[i]=x:=⟨_,rfl⟩;rw [hx0]at c0 c1 hx HS;clear hx0 hc;obtain⟨k,v⟩:=x;simp only at c0 c1 hx;have hr5:=hbl.alloc hsz (.cells #[.string (st k),.string (st v)] 121);have hr6:=hr5.alloc hr5.size (.cells #[.string (st k),.string (st v)] 9);have HWR:=zz ((hwr.alloc (.cells #[.string (st k),.string (st v)] 121)).alloc (.cells #[.string (st k),.string (st v)] 9));have hn4:=Blk.new wr 121 #[.string (st k),.string (st v)];have hslx:Sl (fun b=>b≠G∧b<((wr.alloc (.cells #[.string (st k),.string (st v)] 121)).alloc (.cells #[.string (st k),.string (st v)] 9)).heap.size) ((wr.alloc (.cells #[.string (st k),.string (st v)] 121)).alloc (.cells #[.string (st k),.string (st v)] 9)) 1 (.slice (some ⟨wr.heap.size+1,0,none⟩) 2 2) [k,v].length (zJg [k,v]):=Sl.new2 _ _ _ _ (by simp) ⟨by omega,by simp⟩;have HSLX:=zz hslx;clear hslx hwr;go_wp2_with fail
    refine(z3T G G _ [k,v] _ _ HWR.out (by simp;omega) (Nat.le_refl _) (by intro y hy;simp at hy;rcases hy with rfl|rfl<;>omega) (by have:=HLP.out;simp only [List.length_append,List.length_cons,List.length_nil];omega) HSLX.out).mono ?_;rintro e w5 ⟨rfl,hw5,hg5⟩;simp only [List.flatMap_cons,List.flatMap_nil,List.append_nil]at hw5;have r5:Below W.heap.size W w5:=hr6.trans (z0M hg5 (by omega) (by simp;omega));have hG5:G<w5.heap.size:=by have:=hg5.size;simp at this;omega
    have HE5:Hid (z2b (k,v)=z0Q k++z0Q v):=rfl;clear hg5;go_wp2_with fail
    go_roundw
    case rel=>exact⟨i+1,by go_num,by omega,by rw [HS.out,HE5.out,←List.append_assoc];exact hw5,r5,hG5⟩
    case measure=>simp [intOf];omega
   ·obtain rfl:i=cs.length:=by omega
    rw [List.take_length]at hwr;have hwf:Wr wr G G (pgF leaf (nn:Int) cs):=by rw [HPF.out];simpa using hwr
    have HWF:=zz hwf;have HBR:=zz (HBT.out.later qr);clear hwr hwf;go_wp2_with fail
    refine(z2h G G (pgF leaf (nn:Int) cs) wr HWF.out (by have:=HFL.out;omega)).mono ?_;rintro e w5 ⟨A5,k5,c5,rfl,hown5,hbl5⟩;have q5:=qr.trans (hbl5.mono qr.size);have HB5:=zz (HBT.out.later q5);have HO5:=zz hown5;clear hown5 hbl5;go_wp2_with fail
    refine(zBe _ _ (pgF leaf (nn:Int) cs) w5 HB5.out (by have:=HFL.out;omega) HO5.out.bs).mono ?_;rintro e w6 ⟨A6,k6,c6,rfl,hown6,hbl6⟩;go_wp2_with fail
    go_ret2
    exact⟨fun _=>⟨A6,k6,c6,rfl,hown6.lower q5.size⟩,fun h=>absurd HOK.out h,q5.trans (hbl6.mono q5.size)⟩
 ·have HOK:=zz hok;have t1:((z10 next cs:Int) != 0)=true:=by rw [bne_iff_ne];omega
  obtain⟨P,hP⟩:∃P,z10 next cs=P:=⟨_,rfl⟩;have HP:=zz hP;rw [hP]at t1 ⊢;clear hok hP;go_wp2_with fail
  go_ret2
  exact⟨fun h=>absurd h HOK.out,fun _=>by rw [HP.out];rfl,qa1⟩
theorem z81(b:Bool)(s:List UInt8):z1C (z1N b++s) 0=(b,s,0):=by
 unfold z1C z1N;rw [if_neg (by simp)];cases b<;>rfl
theorem z34{x:Nat}(hx:x<U64){m:Nat}(hm:x≤m)(s:List UInt8):z0I (z0A x++s) 0 (m:Int)=(x,s,0):=by
 unfold z0I;rw [if_neg (by simp),z2S hx];simp only [List.drop_left];rw [if_neg (by omega)]
theorem z6c:∀ (cs:List Cel) (s:List UInt8) (acc:List Cel),(∀c∈cs,c.1.length≤65536∧c.2.length≤65536)→z1u cs.length (cs.flatMap z2b++s,0) acc=(acc++cs,(s,0))
 | [],s,acc,_=>by simp [z1u]
 |c::cs,s,acc,h=>by
  have hc:=h c (by simp);have e:(c::cs).flatMap z2b++s=z0A c.1.length++(c.1++(z0A c.2.length++(c.2++(cs.flatMap z2b++s)))):=by
   simp [z2b,z0Q]
  rw [List.length_cons,z1u,e];simp only;rw [z5W hc.1];simp only;rw [z5W hc.2];simp only;rw [z6c cs s _ (fun x hx=>h x (by simp [hx]))];simp
theorem zBW(f:List UInt8):z1g (z73 f)= .ok f:=by
 have e:(z73 f).take ((z73 f).length-4)=f:=by
  rw [z6Q,Nat.add_sub_cancel];unfold z73;rw [List.take_left]
 unfold z1g;rw [if_neg (by rw [z6Q];omega),e];exact if_pos rfl
theorem z1d:∀ (p:Option (List UInt8)) (cs:List Cel),chk p cs=0→∀c∈cs,c.1.length+c.2.length≤480
 |p,[],_,c,hc=>by cases hc
 |p,x::xs,h,c,hc=>by
  rw [chk]at h
  split at h
  ·cases h
  ·split at h
   ·cases h
   ·rcases List.mem_cons.1 hc with rfl|hc
    ·omega
    ·exact z1d _ xs h c hc
theorem z4J{n:Int}{cs:List Cel}(h:z10 n cs=0):chk none cs=0:=by
 unfold z10 at h
 split at h
 ·cases h
 ·split at h
  ·rename_i h2;exact absurd h h2
  ·rename_i h2;simpa using h2
theorem zAR{b:Bool}{n:Nat}{cs:List Cel}(h:z10 (n:Int) cs=0):z2g (z73 (pgF b (n:Int) cs))=some (b,n,cs):=by
 have hsm:=z1d none cs (z4J h);obtain⟨_,h256,hsz⟩:=z67 h;have hn:n≤256:=by omega
 have hlen:cs.length≤2048:=by
  have h2:cs.length≤z0D cs:=by
   clear h hsz hsm
   induction cs with
   |nil=>simp [z0D]
   |cons c cs ih=>
    have e:z0D (c::cs)=(z2b c).length+z0D cs:=by simp [z0D]
    have h1:1≤(z2b c).length:=by
     unfold z2b z0Q;have:=z1G c.1.length;simp only [List.length_append];omega
    rw [e,List.length_cons];omega
  unfold z4W at hsz;omega
 unfold z2g;rw [zBW];simp only;unfold zJe;have e:pgF b (n:Int) cs=z1N b++(z0A n++(z0A cs.length++(cs.flatMap z2b++ []))):=by
  unfold pgF z1N;rw [List.append_nil];rfl
 rw [e,z81];simp only;rw [show(256:Int)=((256:Nat):Int)from rfl,z34 (by unfold U64;omega) hn];simp only;rw [show(2048:Int)=((2048:Nat):Int)from rfl,z34 (by unfold U64;omega) hlen];simp only;rw [z6c cs [] [] (fun c hc=>by have:=hsm c hc;omega)];simp only [List.nil_append];rw [if_pos ⟨by simp [z1P],h⟩]
theorem z85:∀ (p:Option (List UInt8)) (cs:List Cel) (k:Nat),chk p cs=0→chk p (cs.take k)=0
 |p,cs,0,_=>by simp [chk]
 |p,[],k+1,_=>by simp [chk]
 |p,c::cs,k+1,h=>by
  rw [chk]at h;rw [List.take_succ_cons,chk]
  split at h
  ·cases h
  ·rename_i h1;rw [if_neg h1]
   split at h
   ·cases h
   ·rename_i h2;rw [if_neg h2];exact z85 _ cs k h
theorem zGm{p:Option (List UInt8)}:∀ {cs:List Cel},chk p cs=0→chk none cs=0
 | [],_=>by simp [chk]
 |c::cs,h=>by
  rw [chk]at h ⊢
  split at h
  ·cases h
  ·rename_i h1;rw [if_neg h1,if_neg (by simp [zAI])]
   split at h
   ·cases h
   ·exact h
theorem z6Y:∀ (p:Option (List UInt8)) (cs:List Cel) (k:Nat),chk p cs=0→chk none (cs.drop k)=0
 |p,cs,0,h=>by rw [List.drop_zero];exact zGm h
 |p,[],k+1,_=>by simp [chk]
 |p,c::cs,k+1,h=>by
  rw [chk]at h;rw [List.drop_succ_cons]
  split at h
  ·cases h
  ·split at h
   ·cases h
   ·exact z6Y _ cs k h
theorem z9a:∀ (p:Option (List UInt8)) (cs:List Cel),chk p cs=0→RisesP cs
 |p,[],_=>by intro i hi;simp at hi
 |p,c::cs,h=>by
  rw [chk]at h
  split at h
  ·cases h
  ·split at h
   ·cases h
   ·intro i hi;rcases i with _|i
    ·rcases cs with _|⟨d,ds⟩
     ·simp at hi
     ·rw [chk]at h
      split at h
      ·cases h
      ·split at h
       ·cases h
       ·rename_i h2;simpa [zAI]using h2
    ·have ih:=z9a _ cs h i (by simpa using hi);simpa using ih
theorem z1l{x:Nat}(h:x<16384):(z0A x).length≤2:=z5C 1 x h
theorem z2e{c:Cel}(h:c.1.length+c.2.length≤480):(z2b c).length≤484:=by
 unfold z2b z0Q;have h1:=z1l (x:=c.1.length) (by omega);have h2:=z1l (x:=c.2.length) (by omega);simp only [List.length_append];omega
theorem z65{x:Nat}(h:x<128):(z0A x).length=1:=by rw [z1e h];rfl
theorem z4z{next:Int}{cs:List Cel}(hn:next≤256)(hf:cs.length≤100):z4W next cs≤z0D cs+8∧z0D cs+7≤z4W next cs:=by
 unfold z4W;have h1:=z1l (x:=next.toNat) (by omega);have h2:=z1G next.toNat;have h3:=z65 (x:=cs.length) (by omega);omega
theorem z8s{next:Int}{cs:List Cel}(h0:0≤next)(h1:next≤256)(hc:chk none cs=0)(hs:z4W next cs≤2048):z10 next cs=0:=by
 unfold z10;rw [if_neg (by omega),hc,if_neg (by simp),if_neg (by omega)]
theorem halves{next:Int}{cs:List Cel}{k:Nat}(hf:cs.length≤100)(hc:z10 next cs=0)(hk:HalfAt cs k):
 z10 next (cs.take k)=0∧z10 next (cs.drop k)=0∧z4W next (cs.take k)+490≤2048∧z4W next (cs.drop k)+490≤2048:=by
 obtain⟨h0,h1,hs⟩:=z67 hc;have hch:=z4J hc;have hsm:=z1d none cs hch;have z0:=z4z (next:=next) (cs:=cs) h1 hf;have za:=z4z (next:=next) (cs:=cs.take k) h1 (by rw [List.length_take];omega);have zb:=z4z (next:=next) (cs:=cs.drop k) h1 (by rw [List.length_drop];omega);have hsum:z0D cs=z0D (cs.take k)+z0D (cs.drop k):=by rw [←z17,List.take_append_drop]
 have hlo:=hk.lo;have hhi:=hk.hi;obtain⟨j,rfl⟩:∃j,k=j+1:=⟨k-1,by omega⟩;have hj:j<cs.length:=by omega
 have hstep:=z2L (cs:=cs) hj;have hcj:=z2e (hsm _ (List.getElem_mem hj));have ha:z0D (cs.take (j+1))≤1504:=by
  rcases Nat.eq_zero_or_pos j with h|h
  ·subst h;rw [hstep];have:z0D (cs.take 0)=0:=rfl;omega
  ·have:=hk.less j h (by omega);omega
 have hb:z0D (cs.drop (j+1))≤1021:=by
  rcases hk.stop with h|h
  ·have e:cs.drop (j+1)= [cs[j+1]'(by omega)]∨cs.drop (j+1)= []:=by
    rcases Nat.lt_or_ge (j+1) cs.length with h2|h2
    ·left;rw [List.drop_eq_getElem_cons h2,List.drop_eq_nil_of_le (by omega)]
    ·right;exact List.drop_eq_nil_of_le (by omega)
   rcases e with e|e
   ·rw [e,z4Z];have:=z2e (hsm _ (List.getElem_mem (show j+1<cs.length by omega)));omega
   ·rw [e];simp [z0D]
  ·omega
 exact⟨z8s h0 h1 (z85 _ _ _ hch) (by omega),z8s h0 h1 (z6Y _ _ _ hch) (by omega),by omega,by omega⟩
end
section
open Go
def Lt(a b:List UInt8):Prop:=z15 a b<0
theorem Lt.trans{a b c:List UInt8}(h:Lt a b)(h':Lt b c):Lt a c:=z3w a b c h h'
theorem Lt.irrefl{a:List UInt8}(h:Lt a a):False:=by unfold Lt at h;rw [z3d]at h;omega
theorem z0L{a b:List UInt8}:Op.bytesLess a b=true↔Lt a b:=by rw [z0d,decide_eq_true_eq];rfl
theorem z2T{a b:List UInt8}:Op.bytesLess a b=false↔¬Lt a b:=by rw [z0d,decide_eq_false_iff_not];rfl
theorem z7G{a b:List UInt8}:Lt a b∨a=b∨Lt b a:=by
 have h1:=z8a a b;have h2:=z6G a b;rcases h1 with h|h|h
 ·exact .inl (by unfold Lt;omega)
 ·exact .inr (.inl (zBX _ _ h))
 ·exact .inr (.inr (by unfold Lt;omega))
theorem Lt.not{a b:List UInt8}(h:Lt a b):¬Lt b a:=fun h'=>(h.trans h').irrefl
theorem Lt.ne{a b:List UInt8}(h:Lt a b):a≠b:=fun e=>by subst e;exact h.irrefl
def Asc(cs:List Cel):Prop:=cs.Pairwise fun a b=>Lt a.1 b.1
theorem RisesP.asc{cs:List Cel}(h:RisesP cs):Asc cs:=by
 unfold Asc;rw [List.pairwise_iff_getElem];intro i j hi hj hij;exact z9B h hij hj
theorem Asc.rises{cs:List Cel}(h:Asc cs):RisesP cs:=fun i hi=>by
 unfold Asc at h;rw [List.pairwise_iff_getElem]at h;exact z0L.2 (h i (i+1) (by omega) hi (by omega))
theorem z9y:∀ {l m:List Cel} {k:List UInt8},(∀c∈l,Lt c.1 k)→(∀c∈m,¬Lt c.1 k)→z0B (l++m) k=l.length
 | [],[],k,_,_=>rfl
 | [],c::m,k,_,hm=>by
   unfold z0B;rw [List.nil_append,List.takeWhile_cons,if_neg (by rw [z0L];exact hm c (by simp))]
 |a::l,m,k,hl,hm=>by
  have ih:=z9y (l:=l) (m:=m) (k:=k) (fun c hc=>hl c (by simp [hc])) hm;unfold z0B at ih ⊢;rw [List.cons_append,List.takeWhile_cons,if_pos (z0L.2 (hl a (by simp))),List.length_cons,ih,List.length_cons]
section
variable {cs:List Cel} {k:List UInt8}
theorem z72{c:Cel}(h:c∈cs.take (z0B cs k)):Lt c.1 k:=by
 obtain⟨i,hi,rfl⟩:=List.mem_iff_getElem.1 h;rw [List.length_take]at hi;rw [List.getElem_take];exact z0L.1 (z8B (by omega))
theorem zBZ(ha:Asc cs){c:Cel}(h:c∈cs.drop (z0B cs k)):¬Lt c.1 k:=by
 obtain⟨i,hi,rfl⟩:=List.mem_iff_getElem.1 h;rw [List.length_drop]at hi;rw [List.getElem_drop];have:=z9V ha.rises k (i:=z0B cs k+i) (by omega);rw [decide_eq_true (by omega)]at this;rw [←z2T];simpa using this
theorem zDz(h:isK cs k=true):∃v,cs[z0B cs k]? =some (k,v):=by
 unfold isK at h;cases hx:cs[z0B cs k]? with
 |none=>rw [hx]at h;cases h
 |some x=>
  rw [hx]at h;exact⟨x.2,by rw [←eq_of_beq h]⟩
theorem zFb(h:isK cs k=false){x:Cel}(hx:cs[z0B cs k]? =some x):x.1≠k:=by
 unfold isK at h;rw [hx]at h;intro e;simp [e]at h
theorem z9p(h:isK cs k=true):z0B cs k<cs.length:=by
 obtain⟨v,hv⟩:=zDz h;exact(List.getElem?_eq_some_iff.1 hv).1
theorem zF0(h:isK cs k=true):∃v,cs.drop (z0B cs k)=(k,v)::cs.drop (z0B cs k+1):=by
 obtain⟨v,hv⟩:=zDz h;obtain⟨h1,h2⟩:=List.getElem?_eq_some_iff.1 hv;exact⟨v,by rw [List.drop_eq_getElem_cons h1,h2]⟩
def z63(cs:List Cel)(k:List UInt8):Nat:=if isK cs k then 1 else 0
theorem z8D(ha:Asc cs){c:Cel}(h:c∈cs.drop (z0B cs k+z63 cs k)):Lt k c.1:=by
 unfold z63 at h;cases hi:isK cs k with
 |true=>
  rw [hi,if_pos rfl]at h;obtain⟨v,hv⟩:=zF0 hi;have h2:Asc (cs.drop (z0B cs k)):=List.Pairwise.drop ha;rw [hv]at h2;exact(List.pairwise_cons.1 h2).1 c h
 |false=>
  rw [hi]at h;simp only [Bool.false_eq_true,if_false,Nat.add_zero]at h;rcases z7G (a:=k) (b:=c.1)with h1|h1|h1
  ·exact h1
  ·exfalso;obtain⟨i,hi2,hc⟩:=List.mem_iff_getElem.1 h;rw [List.length_drop]at hi2;rw [List.getElem_drop]at hc;rcases Nat.eq_zero_or_pos i with h0|h0
   ·subst h0;exact zFb hi (x:=c) (by rw [←hc];exact List.getElem?_eq_getElem _) h1.symm
   ·have h4:Lt cs[z0B cs k].1 cs[z0B cs k+i].1:=by
     unfold Asc at ha;rw [List.pairwise_iff_getElem]at ha;exact ha _ _ (by omega) (by omega) (by omega)
    rw [hc,←h1]at h4;refine zBZ (k:=k) ha (c:=cs[z0B cs k]'(by omega)) ?_ h4;rw [List.mem_iff_getElem];exact⟨0,by rw [List.length_drop];omega,by rw [List.getElem_drop];rfl⟩
  ·exact absurd h1 (zBZ ha (List.mem_of_mem_drop (i:=0) (by simpa using h)))
end
def putC(cs:List Cel)(c:Cel):List Cel:=cs.take (z0B cs c.1)++c::cs.drop (z0B cs c.1+z63 cs c.1)
def delC(cs:List Cel)(k:List UInt8):List Cel:=cs.take (z0B cs k)++cs.drop (z0B cs k+z63 cs k)
section
variable {cs:List Cel} {k:List UInt8} {c:Cel}
theorem zBG(cs:List Cel)(k:List UInt8):z0B cs k+z63 cs k≤cs.length:=by
 unfold z63;have h1:=z1o cs k;cases h:isK cs k with
 |true=>have:=z9p h;simp;omega
 |false=>simp;omega
theorem z3n(cs:List Cel)(c:Cel):(putC cs c).length+z63 cs c.1=cs.length+1:=by
 have:=zBG cs c.1;unfold putC;rw [List.length_append,List.length_cons,List.length_take,List.length_drop];omega
theorem zGi(cs:List Cel)(k:List UInt8):(delC cs k).length+z63 cs k=cs.length:=by
 have:=zBG cs k;unfold delC;rw [List.length_append,List.length_take,List.length_drop];omega
theorem Asc.putC(ha:Asc cs)(c:Cel):Asc (putC cs c):=by
 unfold Proofs.YtdkobefpnjbgnaaGreatDoor.putC;refine List.pairwise_append.2 ⟨List.Pairwise.take ha,List.pairwise_cons.2 ⟨fun x hx=>z8D ha hx,List.Pairwise.drop ha⟩,fun x hx y hy=> ?_⟩;rcases List.mem_cons.1 hy with rfl|hy
 ·exact z72 hx
 ·exact(z72 hx).trans (z8D ha hy)
theorem Asc.delC(ha:Asc cs)(k:List UInt8):Asc (delC cs k):=by
 unfold Proofs.YtdkobefpnjbgnaaGreatDoor.delC;exact List.pairwise_append.2 ⟨List.Pairwise.take ha,List.Pairwise.drop ha,fun x hx y hy=>(z72 hx).trans (z8D ha hy)⟩
theorem zIg(h:isK cs k=false):delC cs k=cs:=by
 unfold delC z63;rw [h];simp only [Bool.false_eq_true,if_false,Nat.add_zero];exact List.take_append_drop _ _
end
theorem zHY{cs:List Cel}{c:Cel}(h:isK cs c.1=true):putC cs c=cs.set (z0B cs c.1) c:=by
 rw [List.set_eq_take_append_cons_drop,if_pos (z9p h)];unfold putC z63;rw [h];rfl
theorem zFJ{cs:List Cel}{c:Cel}(h:isK cs c.1=false):putC cs c=cs.take (z0B cs c.1)++c::cs.drop (z0B cs c.1):=by
 unfold putC z63;rw [h];rfl
section
variable {cs:List Cel} {c:Cel} {i:Nat}
end
end
section
open Go Go.RowKit Go.WideShapes
open Go.Maps (Keyed)
set_option linter.unusedSectionVars false
def z7A(v:Value):Option (DataW Value×List MemPlace):=some (.held v,[])
def InI(a:Int):Prop:= -9223372036854775808≤a∧a≤9223372036854775807
theorem InI.wf{a:Int}(h:InI a):(Lit.int .i64 a).wf=true:=by
 unfold InI at h;simp only [Lit.wf,Bool.and_eq_true,decide_eq_true_eq];exact h
theorem InI.of{a:Int}(h:(Lit.int .i64 a).wf=true):InI a:=by
 simp only [Lit.wf,Bool.and_eq_true,decide_eq_true_eq]at h;exact h
def nPut(f:Int→Option Value)(n:Nat)(a:Int):Nat:=if(f a).isSome then n else n+1
def nDel(f:Int→Option Value)(n:Nat)(a:Int):Nat:=if(f a).isSome then n-1 else n
section
variable {P:Program} {k:TypeId} {w w':World} {b n:Nat} {f:Int→Option Value}
def MpV(P:Program)(k:TypeId)(w:World)(b:Nat)(f:Int→Option Value)(n:Nat):Prop:=
 ∃D:DataW Value,w.ownsMap P k z7A b n D∧Maps.size D=n∧∀a,InI a→Maps.has D (.int .i64 a)=(f a).isSome∧∀v,f a=some v→∀z,D.atKey (.int .i64 a) z= .held v
theorem z9P{m:Nat}{D:DataW Value}(h:w.ownsMap P k z7A b m D):w.ownsMap P k z7A b (Maps.size D) D:=by
 obtain⟨es,clock,hb,F,hs,hD⟩:=h;have e1:Maps.size D=es.size:=by rw [hD];simp [Maps.size,length_sorted]
 exact⟨es,clock,hb,F,by rw [e1];exact Nat.le_refl _,hD⟩
theorem MpV.lt(h:MpV P k w b f n):b<w.heap.size:=by obtain⟨D,h1,_⟩:=h;exact h1.lt
theorem MpV.isMap(h:MpV P k w b f n):∃es clock,w.heap[b]? =some (.map es clock):=by
 obtain⟨D,⟨es,clock,hb,_⟩,_⟩:=h;exact⟨es,clock,hb⟩
theorem MpV.at(h:MpV P k w b f n)(hb:w'.heap[b]? =w.heap[b]?):MpV P k w' b f n:=by
 obtain⟨D,⟨es,clock,hb0,F,hs,hD⟩,h2,h3⟩:=h;exact⟨D,⟨es,clock,hb.trans hb0,F,hs,hD⟩,h2,h3⟩
theorem MpV.later(h:MpV P k w b f n)(hb:Below w.heap.size w w'):MpV P k w' b f n:=h.at (hb.block b h.lt)
theorem MpV.alloc(h:MpV P k w b f n)(o:Obj):MpV P k (w.alloc o) b f n:=h.at (Below.heap_alloc w o b h.lt)
theorem MpV.made(P:Program)(k:TypeId)(w:World):MpV P k (w.alloc (.map #[] 0)) w.heap.size (fun _=>none) 0:=
 ⟨.map [],World.ownsMap_made w P k z7A,rfl,fun a _=>⟨rfl,fun v h=>by cases h⟩⟩
variable (hk:P.underlying k=some (.int .i64))
include hk
theorem z9h{a:Int}(ha:InI a):keyOf P k (.int .i64 a)=some (.int .i64 a):=Maps.keyOf_int_mk hk ha.wf
theorem MpV.atv(h:MpV P k w b f n){D:DataW Value}{a:Int}(ha:InI a){v z:Value}(h3:Maps.has D (.int .i64 a)=(f a).isSome∧∀v,f a=some v→∀z,D.atKey (.int .i64 a) z= .held v)
 (hv:DataW.held v=D.atKey (.int .i64 a) (.held z)):v=(f a).getD z:=by
 cases hf:f a with
 |some u=>
  rw [h3.2 u hf]at hv;injection hv
 |none=>
  have h0:Maps.has D (.int .i64 a)=false:=by rw [h3.1,hf];rfl
  rw [Maps.atKey_of_not_has h0]at hv;injection hv
theorem MpV.look{t e:TypeId}(h:MpV P k w b f n)(ht:P.underlying t=some (.map k e)){z:Value}(hz:(zeroValue e).run P w= .ok z w){a:Int}(ha:InI a):
 (Instr.lookup t (.map (some b)) (.int .i64 a) true).run P w= .ok (.tuple #[(f a).getD z,.bool (f a).isSome]) w:=by
 have h0:=h;obtain⟨D,h1,h2,h3⟩:=h;obtain⟨v,ps,hrun,hv⟩:=h1.look_ok (Maps.int_keyed hk) ht hz (zd:= .held z) (zp:= []) rfl (z9h hk ha);simp only [z7A,Option.some.injEq,Prod.mk.injEq]at hv;rw [hrun,h0.atv hk ha (h3 a ha) hv.1,(h3 a ha).1]
theorem MpV.look1{t e:TypeId}(h:MpV P k w b f n)(ht:P.underlying t=some (.map k e)){z:Value}(hz:(zeroValue e).run P w= .ok z w){a:Int}(ha:InI a):
 (Instr.lookup t (.map (some b)) (.int .i64 a) false).run P w= .ok ((f a).getD z) w:=by
 have h0:=h;obtain⟨D,h1,h2,h3⟩:=h;obtain⟨v,ps,hrun,hv⟩:=h1.lookup (Maps.int_keyed hk) ht hz (zd:= .held z) (zp:= []) rfl (z9h hk ha);simp only [z7A,Option.some.injEq,Prod.mk.injEq]at hv;rw [hrun,h0.atv hk ha (h3 a ha) hv.1]
theorem MpV.len{t e:TypeId}(h:MpV P k w b f n)(ht:P.underlying t=some (.map k e))(ty:TypeId):(Builtin.len_ #[t] ty #[.map (some b)]).run P w= .ok (.int .i64 (n:Int)) w:=by
 obtain⟨D,h1,h2,h3⟩:=h;rw [h1.len ht ty,h2]
theorem MpV.put{t e:TypeId}(h:MpV P k w b f n)(ht:P.underlying t=some (.map k e))(hn:n<maxLen){a:Int}(ha:InI a)(v:Value):
 ∃w',(Instr.mapUpdate t (.map (some b)) (.int .i64 a) v).run P w= .ok () w'∧MpV P k w' b (fun x=>if x=a then some v else f x) (nPut f n a)∧w.mapTurned w' b:=by
 obtain⟨D,h1,h2,h3⟩:=h;have K:=Maps.int_keyed hk;have ht':=h1.tidy K;have hkl:WideAt.IsKeyLit (.int .i64 a):=K.key (z9h hk ha);obtain⟨w',hrun,h1',hturn⟩:=h1.store K ht hn (z9h hk ha) (d:= .held v) (ps:= []) rfl;have hsz:Maps.size (D.put (.int .i64 a) (.held v))=nPut f n a:=by
  rw [Maps.size_put ht',(h3 a ha).1,h2];unfold nPut;cases f a<;>rfl
 refine⟨w',hrun,⟨_,by rw [←hsz];exact z9P h1',hsz,fun x hx=> ?_⟩,hturn⟩;by_cases hxa:x=a
 ·subst hxa;refine⟨by rw [Maps.has_put_same ht'.isMap hkl];simp,fun u hu z=> ?_⟩;simp only [if_true,Option.some.injEq]at hu;subst hu;exact Maps.atKey_put_same ht'.isMap hkl _ _
 ·have hne:Lit.int .i64 x≠ .int .i64 a:=fun e=>hxa (by injection e)
  refine⟨by rw [Maps.has_put_other hne,(h3 x hx).1];simp only [hxa,if_false],fun u hu z=> ?_⟩;simp only [hxa,if_false]at hu;rw [Maps.atKey_put_other hne];exact(h3 x hx).2 u hu z
theorem MpV.del{t e:TypeId}(h:MpV P k w b f n)(ht:P.underlying t=some (.map k e)){a:Int}(ha:InI a)(ty:TypeId):
 ∃w',(Builtin.delete_ #[t,k] ty #[.map (some b),.int .i64 a]).run P w= .ok (.tuple #[]) w'∧MpV P k w' b (fun x=>if x=a then none else f x) (nDel f n a)∧w.mapTurned w' b:=by
 obtain⟨D,h1,h2,h3⟩:=h;have K:=Maps.int_keyed hk;have ht':=h1.tidy K;obtain⟨w',hrun,h1',hturn⟩:=h1.drop K ht (z9h hk ha) ty;have hsz:Maps.size (D.del (.int .i64 a))=nDel f n a:=by
  have:=Maps.size_del (k:= .int .i64 a) ht';rw [(h3 a ha).1,h2]at this;unfold nDel;cases hf:f a with
  |none=>rw [hf]at this;simpa using this
  |some u=>
   rw [hf]at this;simp only [Option.isSome_some,if_true]at this ⊢;omega
 refine⟨w',hrun,⟨_,by rw [←hsz];exact z9P h1',hsz,fun x hx=> ?_⟩,hturn⟩;by_cases hxa:x=a
 ·subst hxa;exact⟨by rw [Maps.has_del_same];simp,fun u hu z=>by simp at hu⟩
 ·have hne:Lit.int .i64 x≠ .int .i64 a:=fun e=>hxa (by injection e)
  refine⟨by rw [Maps.has_del_other hne,(h3 x hx).1];simp only [hxa,if_false],fun u hu z=> ?_⟩;simp only [hxa,if_false]at hu;rw [Maps.atKey_del_other hne];exact(h3 x hx).2 u hu z
omit hk
theorem z6C{α:Type} [BEq α] [LawfulBEq α]:∀ {l l':List α},l.Nodup→(∀x∈l,x∈l')→l.length≤l'.length
 | [],l',_,_=>Nat.zero_le _
 |x::r,l',hn,h=>by
  rw [List.nodup_cons]at hn;have hx:=h x (by simp);have ih:=z6C (l:=r) (l':=l'.erase x) hn.2 fun y hy=>(List.mem_erase_of_ne (by rintro rfl;exact hn.1 hy)).2 (h y (by simp [hy]))
  rw [List.length_erase_of_mem hx]at ih;have:0<l'.length:=List.length_pos_of_mem hx;rw [List.length_cons];omega
theorem MpV.ge(h:MpV P k w b f n)(hk:P.underlying k=some (.int .i64)){l:List Int}(hn:l.Nodup)(hl:∀x∈l,InI x∧(f x).isSome=true):l.length≤n:=by
 obtain⟨D,h1,h2,h3⟩:=h;obtain⟨es,rfl⟩:=(h1.tidy (Maps.int_keyed hk)).isMap;have h4:=z6C (α:=Int) (l:=l) (l':=es.filterMap fun p=>match p.1 with| .int _ x=>some x|_=>none) hn fun x hx=>by
  have h5:=(h3 x (hl x hx).1).1;rw [(hl x hx).2,Maps.has_eq,List.any_eq_true]at h5;obtain⟨p,hp,hs⟩:=h5;have h6:=WideAt.sameKey_eq hs;exact List.mem_filterMap.2 ⟨p,hp,by rw [h6]⟩
 have h5:=List.length_filterMap_le (fun p:Lit×DataW Value=>match p.1 with| .int _ x=>some x|_=>none) es;rw [Maps.size_eq]at h2;omega
def RgV(P:Program)(k:TypeId)(w:World)(b r:Nat)(f:Int→Option Value)(n:Nat)(left:Int→Bool)(cnt:Nat):Prop:=
 ∃ (D:DataW Value) (lf:Lit→Bool),w.ranges P k z7A b r n D lf cnt∧Maps.size D=n∧(∀a,InI a→Maps.has D (.int .i64 a)=(f a).isSome∧∀v,f a=some v→∀z,D.atKey (.int .i64 a) z= .held v)∧∀a,left a=true↔InI a∧lf (.int .i64 a)=true
variable {r cnt:Nat} {left:Int→Bool}
theorem RgV.left_eq(h:RgV P k w b r f n left cnt):w.rangeLeft b r=cnt:=by
 obtain⟨D,lf,h1,_⟩:=h;exact h1.left_eq
theorem RgV.kept{row:Option Nat}(h:RgV P k w b r f n left cnt)(hg:w.grownBy w' row)(hb:some b≠row)(hr:some r≠row):RgV P k w' b r f n left cnt:=by
 obtain⟨D,lf,h1,h2,h3,h4⟩:=h;exact⟨D,lf,h1.kept hg hb hr,h2,h3,h4⟩
variable {ops:Array Oper} {rest:List Oper} {o:Oper} {a:Act} {Q:Exit→Act→World→Prop}
theorem z6x(w:World)(hg:o.guard=none)(m:Operand)(t:TypeId)(hop:o.op=Op.range t m)(hk:P.underlying k=some (.int .i64)){e:TypeId}(ht:P.underlying t=some (.map k e))
 (hm:a.eval m= .map (some b)) (h:MpV P k w b f n) (left:Int→Bool) (hl:∀a,left a=true↔InI a∧(f a).isSome=true)
 (hK:∀w',RgV P k w' b w.heap.size f n left n→w.grownBy w' none→w'.heap.size=w.heap.size+1→wpList P ops Q rest (a.put o.dst (.pointer (some ⟨w.heap.size,0,none⟩))) w'):wpList P ops Q (o::rest) a w:=by
 obtain⟨D,h1,h2,h3⟩:=h;refine wpList_range_own w hg m t hop k e (Maps.int_keyed hk) ht z7A b n D hm h1 fun w' hr hgr hsz=>hK w' ⟨D,_,by rw [h2]at hr;exact hr,h2,h3,fun a=> ?_⟩ hgr hsz
 rw [hl];exact⟨fun⟨ha,hf⟩=>⟨ha,by rw [(h3 a ha).1];exact hf⟩,fun⟨ha,hf⟩=>⟨ha,by rw [(h3 a ha).1]at hf;exact hf⟩⟩
theorem z7H(w:World)(hg:o.guard=none)(it:Operand)(hop:o.op=Op.next it false)(hk:P.underlying k=some (.int .i64))
 (hit:a.eval it= .pointer (some ⟨r,0,none⟩)) (h:RgV P k w b r f n left cnt)
 (hDone:cnt=0→(∀x,left x=false)→wpList P ops Q rest (a.put o.dst (.tuple #[.bool false])) w)
 (hMore:∀ (x:Int) (c:Value) (w':World) (cnt':Nat),InI x→left x=true→f x=some c→RgV P k w' b r f n (fun z=>left z&& !(z==x)) cnt'→cnt'<cnt→
   w.grownBy w' (some r)→w'.heap.size=w.heap.size→(Instr.entry (.pointer (some ⟨r,0,none⟩))).run P w'= .ok (.tuple #[.int .i64 x,c]) w'→wpList P ops Q rest (a.put o.dst (.tuple #[.bool true,.int .i64 x,c])) w'):wpList P ops Q (o::rest) a w:=by
 obtain⟨D,lf,h1,h2,h3,h4⟩:=h;refine wpList_next_ranges w hg it hop k (Maps.int_keyed hk) z7A (Value.int .i64) id (fun key kl hkey=>by obtain⟨x,rfl,_⟩:=Maps.keyOf_int_inv hk hkey;exact⟨x,rfl⟩) (fun v y _=>⟨v,rfl⟩) b r n D lf cnt hit h1
  (fun h0 hl=>hDone h0 fun x=> ?_) (fun x c kl y w' cnt' hkey hlk hv hat hrg hlt hgr hsz hen=> ?_)
 ·cases hx:left x with
  |false=>rfl
  |true=>have:=((h4 x).1 hx).2;rw [hl]at this;cases this
 ·obtain⟨x',ex,rfl,hwx⟩:=Maps.keyOf_int_inv hk hkey;cases ex
  have hx:=InI.of hwx;simp only [z7A,Option.some.injEq]at hv;subst hv;have hfx:f x=some c:=by
   cases hf:f x with
   |some u=>
    have e1:=(h3 x hx).2 u hf (.held c);rw [hat]at e1;simp only [id]at e1;injection e1 with e1
    rw [e1]
   |none=>
    have h0:Maps.has D (.int .i64 x)=false:=by rw [(h3 x hx).1,hf];rfl
    have e1:=Maps.atKey_of_not_has h0 (z:=DataW.nil);rw [hat]at e1;cases e1
  refine hMore x c w' cnt' hx ((h4 x).2 ⟨hx,hlk⟩) hfx ⟨D,_,hrg,h2,h3,fun z=> ?_⟩ hlt hgr hsz hen;simp only [Bool.and_eq_true,Bool.not_eq_true',h4 z];constructor
  ·rintro⟨⟨hz,hlf⟩,hne⟩;exact⟨hz,hlf,Maps.sameKey_ne (fun e=>by injection e with _ e;simp [e]at hne)⟩
  ·rintro⟨hz,hlf,hne⟩;refine⟨⟨hz,hlf⟩,?_⟩;rw [beq_eq_false_iff_ne];rintro rfl;simp [Lit.sameKey]at hne
end
end
section
open Go
abbrev SF:=Int→Option (List UInt8)
inductive Pnd where
 |wr (at_:Int) (b:List UInt8)
 |fr (at_:Int)
structure Dsk where
 size:Int
 limit:Int
 view:SF
 nv:Nat
 ground:SF
 ng:Nat
 pend:List Pnd
def SF.put(f:SF)(a:Int)(b:List UInt8):SF:=fun x=>if x=a then some b else f x
def SF.del(f:SF)(a:Int):SF:=fun x=>if x=a then none else f x
def SF.nPut(f:SF)(n:Nat)(a:Int):Nat:=if(f a).isSome then n else n+1
def SF.nDel(f:SF)(n:Nat)(a:Int):Nat:=if(f a).isSome then n-1 else n
def z3D(b old:List UInt8)(n:Int):List UInt8:=
 if n.toNat<b.length then b.take n.toNat++old.drop n.toNat else b
def doP(s:SF×Nat)(p:Pnd)(n:Int):SF×Nat:=match p with
 | .wr a b=>(s.1.put a (z3D b ((s.1 a).getD []) n),s.1.nPut s.2 a)
 | .fr a=>(s.1.del a,s.1.nDel s.2 a)
def Dsk.new(n:Int):Dsk:=⟨n,n,fun _=>none,0,fun _=>none,0,[]⟩
def Dsk.put(D:Dsk)(p:Pnd)(n:Int):Dsk:={D with view:=(doP (D.view,D.nv) p n).1,nv:=(doP (D.view,D.nv) p n).2,pend:=D.pend++ [p]}
def Dsk.why(D:Dsk)(a:Int)(b:List UInt8):Nat:=
 if a<0∨D.size≤a then 61 else if 512<b.length then 62 else if(D.view a).isNone∧D.limit≤(D.nv:Int)then 63 else 0
def Dsk.write(D:Dsk)(a:Int)(b:List UInt8):Dsk:=if D.why a b=0 then D.put (.wr a b) b.length else D
def Dsk.free(D:Dsk)(a:Int):Dsk:=if(D.view a).isSome then D.put (.fr a) 0 else D
def Dsk.sync(D:Dsk):Dsk:={D with ground:=D.view,ng:=D.nv,pend:= []}
structure FinL(f:SF)(n:Nat)(l:List (Int×List UInt8)):Prop where
 nodup:(l.map (·.1)).Nodup
 len:l.length=n
 look:∀a,(l.find? fun x=>x.1==a).map (·.2)=f a
theorem FinL.nil:FinL (fun _=>none) 0 []:=⟨by simp,rfl,fun _=>rfl⟩
theorem FinL.has{f:SF}{n:Nat}{l:List (Int×List UInt8)}(h:FinL f n l)(a:Int):(f a).isSome=true↔a∈l.map (·.1):=by
 rw [←h.look a];constructor
 ·intro hs;cases hf:l.find? (fun x=>x.1==a)with
  |none=>rw [hf]at hs;cases hs
  |some x=>
   have h1:=List.mem_of_find?_eq_some hf;have h2:=List.find?_some hf;simp only [beq_iff_eq]at h2;exact List.mem_map.2 ⟨x,h1,h2⟩
 ·intro hm;obtain⟨x,hx,rfl⟩:=List.mem_map.1 hm;cases hf:l.find? (fun y=>y.1==x.1)with
  |some y=>rfl
  |none=>have:=List.find?_eq_none.1 hf x hx;simp at this
theorem z4C{l:List (Int×List UInt8)}{a x:Int}(hne:x≠a):(l.filter fun y=>y.1 != a).find? (fun y=>y.1==x)=l.find? fun y=>y.1==x:=by
 induction l with
 |nil=>rfl
 |cons y r ih=>
  by_cases hy:y.1=a
  ·rw [List.filter_cons_of_neg (by simp [hy]),ih,List.find?_cons_of_neg (by simp [hy];exact fun e=>hne e.symm)]
  ·rw [List.filter_cons_of_pos (by simpa using hy)];by_cases hx:y.1=x
   ·rw [List.find?_cons_of_pos (by simpa using hx),List.find?_cons_of_pos (by simpa using hx)]
   ·rw [List.find?_cons_of_neg (by simpa using hx),List.find?_cons_of_neg (by simpa using hx),ih]
theorem z4E{l:List (Int×List UInt8)}{a:Int}:(l.filter fun y=>y.1 != a).find? (fun y=>y.1==a)=none:=by
 rw [List.find?_eq_none];intro y hy;have:=(List.mem_filter.1 hy).2;simpa using this
theorem zDX{l:List (Int×List UInt8)}{a:Int}(h:(l.map (·.1)).Nodup):(l.filter fun y=>y.1 != a).length=if a∈l.map (·.1)then l.length-1 else l.length:=by
 induction l with
 |nil=>simp
 |cons y r ih=>
  simp only [List.map_cons,List.nodup_cons]at h;have ih:=ih h.2;by_cases hy:y.1=a
  ·rw [List.filter_cons_of_neg (by simp [hy]),ih,if_neg (by rw [←hy];exact h.1),if_pos (by simp [hy])];simp
  ·rw [List.filter_cons_of_pos (by simpa using hy),List.length_cons,ih];have e:(a∈List.map (·.1) (y::r))↔a∈List.map (·.1) r:=by
    simp only [List.map_cons,List.mem_cons];exact⟨fun h=>h.resolve_left (fun e=>hy e.symm),.inr⟩
   by_cases hm:a∈List.map (·.1) r
   ·rw [if_pos hm,if_pos (e.2 hm),List.length_cons];have:0<r.length:=by
     cases r with
     |nil=>simp at hm
     |cons _ _=>simp
    omega
   ·rw [if_neg hm,if_neg (fun h=>hm (e.1 h)),List.length_cons]
theorem z9A{l:List (Int×List UInt8)}{a:Int}(h:(l.map (·.1)).Nodup):((l.filter fun y=>y.1 != a).map (·.1)).Nodup:=h.sublist (List.Sublist.map _ List.filter_sublist)
theorem FinL.del{f:SF}{n:Nat}{l:List (Int×List UInt8)}(h:FinL f n l)(a:Int):FinL (f.del a) (f.nDel n a) (l.filter fun y=>y.1 != a):=by
 refine⟨z9A h.nodup,?_,fun x=> ?_⟩
 ·rw [zDX h.nodup,h.len];unfold SF.nDel;by_cases hm:a∈l.map (·.1)
  ·rw [if_pos hm,if_pos ((h.has a).2 hm)]
  ·rw [if_neg hm,if_neg (fun e=>hm ((h.has a).1 e))]
 ·unfold SF.del;by_cases hx:x=a
  ·subst hx;rw [z4E,if_pos rfl];rfl
  ·rw [z4C hx,if_neg hx,h.look]
theorem FinL.put{f:SF}{n:Nat}{l:List (Int×List UInt8)}(h:FinL f n l)(a:Int)(b:List UInt8):FinL (f.put a b) (f.nPut n a) ((l.filter fun y=>y.1 != a)++ [(a,b)]):=by
 have hd:=h.del a;refine⟨?_,?_,fun x=> ?_⟩
 ·rw [List.map_append,List.nodup_append];refine⟨hd.nodup,by simp,fun x hx y hy=> ?_⟩;simp only [List.map_cons,List.map_nil,List.mem_singleton]at hy;subst hy;rintro rfl;obtain⟨z,hz,rfl⟩:=List.mem_map.1 hx;have:=(List.mem_filter.1 hz).2;simp at this
 ·rw [List.length_append,hd.len];unfold SF.nDel SF.nPut;by_cases hs:(f a).isSome=true
  ·rw [if_pos hs,if_pos hs];have hm:=(h.has a).1 hs;have:0<l.length:=by
    cases l with
    |nil=>simp at hm
    |cons _ _=>simp
   have:=h.len;simp;omega
  ·rw [if_neg hs,if_neg hs];simp
 ·rw [List.find?_append];unfold SF.put;by_cases hx:x=a
  ·subst hx;rw [z4E,if_pos rfl];simp
  ·rw [z4C hx,if_neg hx,←h.look x];cases l.find? (fun y=>y.1==x)with
   |some y=>rfl
   |none=>simp;exact fun e=>hx e.symm
theorem zBq:∀ (N:Nat) (l:List Int),l.Nodup→(∀x∈l,0≤x∧x<(N:Int))→l.length≤N
 |0,l,_,h=>by
  cases l with
  |nil=>simp
  |cons x r=>have:=h x (by simp);omega
 |N+1,l,hn,h=>by
  have h1:(l.filter fun x=>x != (N:Int)).length≤N:=zBq N _ (hn.sublist List.filter_sublist) fun x hx=>by
   have h2:=List.mem_filter.1 hx;have h3:=h x h2.1;have h4:x≠(N:Int):=by simpa using h2.2
   omega
  have h5:∀ (l:List Int),l.Nodup→l.length≤(l.filter fun x=>x != (N:Int)).length+1:=by
   intro l
   induction l with
   |nil=>intro _;simp
   |cons x r ih=>
    intro hn;rw [List.nodup_cons]at hn;by_cases hx:x=(N:Int)
    ·rw [List.filter_cons_of_neg (by simp [hx])];have e:(r.filter fun y=>y != (N:Int))=r:=List.filter_eq_self.2 fun y hy=>by
      have:y≠(N:Int):=fun e=>hn.1 (by rw [hx,←e];exact hy)
      simpa using this
     rw [e];simp
    ·rw [List.filter_cons_of_pos (by simpa using hx)];have:=ih hn.2;simp only [List.length_cons];omega
  have:=h5 l hn;omega
def SecOk(x:Int×List UInt8):Prop:=0≤x.1∧x.1<65536∧x.2.length≤512
def FinK(f:SF)(n:Nat):Prop:=∃l,FinL f n l∧∀x∈l,SecOk x
theorem FinK.nil:FinK (fun _=>none) 0:=⟨[],FinL.nil,by simp⟩
theorem FinK.bound{f:SF}{n:Nat}(h:FinK f n):n≤65536:=by
 obtain⟨l,h1,h2⟩:=h;have:=zBq 65536 (l.map (·.1)) h1.nodup fun x hx=>by
  obtain⟨y,hy,rfl⟩:=List.mem_map.1 hx;have:=h2 y hy;exact⟨this.1,this.2.1⟩
 rw [List.length_map,h1.len]at this;exact this
theorem FinK.at{f:SF}{n:Nat}(h:FinK f n){a:Int}{b:List UInt8}(hf:f a=some b):0≤a∧a<65536∧b.length≤512:=by
 obtain⟨l,h1,h2⟩:=h;rw [←h1.look a]at hf;cases hfd:l.find? (fun x=>x.1==a)with
 |none=>rw [hfd]at hf;cases hf
 |some x=>
  rw [hfd]at hf;simp only [Option.map_some,Option.some.injEq]at hf;have h3:=h2 x (List.mem_of_find?_eq_some hfd);have h4:=List.find?_some hfd;simp only [beq_iff_eq]at h4;subst h4 hf;exact h3
theorem FinK.put{f:SF}{n:Nat}(h:FinK f n){a:Int}{b:List UInt8}(h0:0≤a)(h1:a<65536)(hb:b.length≤512):FinK (f.put a b) (f.nPut n a):=by
 obtain⟨l,h2,h3⟩:=h;refine⟨_,h2.put a b,fun x hx=> ?_⟩;rcases List.mem_append.1 hx with h4|h4
 ·exact h3 x (List.mem_filter.1 h4).1
 ·simp only [List.mem_singleton]at h4;subst h4;exact⟨h0,h1,hb⟩
theorem FinK.del{f:SF}{n:Nat}(h:FinK f n)(a:Int):FinK (f.del a) (f.nDel n a):=by
 obtain⟨l,h2,h3⟩:=h;exact⟨_,h2.del a,fun x hx=>h3 x (List.mem_filter.1 hx).1⟩
theorem zFh{b old:List UInt8}{n:Int}(hb:b.length≤512)(ho:old.length≤512):(z3D b old n).length≤512:=by
 unfold z3D
 split
 ·rw [List.length_append,List.length_take,List.length_drop];omega
 ·exact hb
def zIV:Pnd→Prop
 | .wr a b=>0≤a∧a<65536∧b.length≤512
 | .fr a=>0≤a∧a<65536
theorem doP_ok{s:SF×Nat}{p:Pnd}(h:FinK s.1 s.2)(hp:zIV p)(n:Int):FinK (doP s p n).1 (doP s p n).2:=by
 cases p with
 |wr a b=>
  refine h.put hp.1 hp.2.1 (zFh hp.2.2 ?_);cases hf:s.1 a with
  |none=>simp
  |some o=>exact(h.at hf).2.2
 |fr a=>exact h.del a
structure Dsk.Ok(D:Dsk):Prop where
 view:FinK D.view D.nv
 ground:FinK D.ground D.ng
 pend:∀p∈D.pend,zIV p
 size:1≤D.size∧D.size≤65536
theorem Dsk.Ok.new{n:Int}(h:1≤n)(h2:n≤65536):(Dsk.new n).Ok:=⟨FinK.nil,FinK.nil,by simp [Dsk.new],⟨h,h2⟩⟩
theorem Dsk.Ok.put{D:Dsk}(h:D.Ok){p:Pnd}(hp:zIV p)(n:Int):(D.put p n).Ok:=by
 refine⟨doP_ok (s:=(D.view,D.nv)) h.view hp n,h.ground,fun q hq=> ?_,h.size⟩;rcases List.mem_append.1 hq with h1|h1
 ·exact h.pend q h1
 ·simp only [List.mem_singleton]at h1;subst h1;exact hp
theorem zCN{D:Dsk}{a:Int}{b:List UInt8}(h:D.why a b=0):0≤a∧a<D.size∧b.length≤512:=by
 unfold Dsk.why at h
 split at h
 ·cases h
 ·split at h
  ·cases h
  ·omega
theorem Dsk.Ok.write{D:Dsk}(h:D.Ok)(a:Int)(b:List UInt8):(D.write a b).Ok:=by
 unfold Dsk.write
 split
 ·rename_i hw;have h1:=zCN hw;have h2:=h.size;exact h.put (p:= .wr a b) ⟨h1.1,by omega,h1.2.2⟩ _
 ·exact h
theorem Dsk.Ok.free{D:Dsk}(h:D.Ok)(a:Int):(D.free a).Ok:=by
 unfold Dsk.free
 split
 ·rename_i hs;obtain⟨b,hb⟩:=Option.isSome_iff_exists.1 hs;have:=h.view.at hb;exact h.put (p:= .fr a) ⟨this.1,this.2.1⟩ _
 ·exact h
theorem Dsk.Ok.sync{D:Dsk}(h:D.Ok):D.sync.Ok:=⟨h.view,h.view,by simp [Dsk.sync],h.size⟩
def z6k(s:List UInt8):Option (Nat×List UInt8):=match z0e s with
 |some ((q,t),n)=>if n=s.length∧0<q then some (q,t)else none
 |none=>none
def z5h(f:SF)(a:Int)(x:Nat×Int×List UInt8)(i:Int):Nat×Int×List UInt8:=match f (a+i)with
 |some s=>match z6k s with
  |some (q,t)=>if x.1<q then(q,i,t)else x
  |none=>x
 |none=>x
def z1a(f:SF)(a:Int):Nat×Int×List UInt8:=z5h f a (z5h f a (0,1,[]) 0) 1
def zJ4(x:Nat×Int×List UInt8):Nat:=if x.1=0 then 121 else 0
end
section
open Go Go.RowKit
def Ow(e:TypeId)(w:World)(B:Nat)(v:Value)(xs:List Value):Prop:=w.ownsRow B e 1 v xs.length xs
section
variable {e:TypeId} {w w':World} {B:Nat} {v:Value} {xs:List Value}
theorem Ow.nil(e:TypeId)(w:World)(B:Nat):Ow e w B (.slice none 0 0) []:=World.ownsRow_nil w B e 1
theorem Ow.later(h:Ow e w B v xs)(hb:Below w.heap.size w w'):Ow e w' B v xs:=by
 obtain⟨h1,h2⟩:=h;refine⟨h1,?_⟩;rcases h2 with h2|⟨g,cap,cur,hv,hg,hh,r⟩
 ·exact .inl h2
 ·exact .inr ⟨g,cap,cur,hv,hg,(hb.block g (lt_of_block hh)).trans hh,r⟩
theorem Ow.open(h:Ow e w B v xs)(hl:0<xs.length):∃g c,v= .slice (some ⟨g,0,none⟩) xs.length c∧B≤g∧g<w.heap.size∧(∀j (hj:j<xs.length),w.cell? ⟨g,j,none⟩=some xs[j])∧∀j,w.frozen? ⟨g,j,none⟩=false:=by
 have h0:=h;rcases h.2 with⟨_,h2⟩|⟨g,cap,cur,rfl,hb,hh,_⟩
 ·omega
 ·refine⟨g,cap,rfl,hb,lt_of_block hh,fun j hj=> ?_,fun j=>World.ownsRow.frozenAt h0 j⟩;rw [World.ownsRow.cellAt h0 j (by omega),List.getElem?_eq_getElem hj]
theorem Ow.shape(h:Ow e w B v xs):∃A c,v= .slice A xs.length c∧(0<xs.length→∃g,A=some ⟨g,0,none⟩∧B≤g∧g<w.heap.size∧∀j (hj:j<xs.length),w.cell? ⟨g,j,none⟩=some xs[j]):=by
 obtain⟨A,k,c,rfl⟩:=z0p h;obtain rfl:=z0V h;refine⟨A,c,rfl,fun hl=> ?_⟩;obtain⟨g,c',hv,hB,hlt,hc,_⟩:=h.open hl;injection hv with hA
 exact⟨g,hA,hB,hlt,hc⟩
end
def bl(l:List Bool):List Value:=l.map .bool
def il(l:List Nat):List Value:=l.map fun(n:Nat)=>Value.int .i64 (n:Int)
theorem z9Q(l:List Nat):(il l).length=l.length:=by simp [il]
end
end Go.Proofs.YtdkobefpnjbgnaaGreatDoor
