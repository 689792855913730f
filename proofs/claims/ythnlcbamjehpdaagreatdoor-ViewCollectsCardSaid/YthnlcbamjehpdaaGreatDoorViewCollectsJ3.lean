/- Part 3. -/
import Derived.Test.YthnlcbamjehpdaaGreatDoorViewCollectsJ2
import Derived.Deep.RegionLaw
import Derived.Maps.OwnSet
import Derived.Maps.RangeWalk
namespace Go.Proofs.YthnlcbamjehpdaaGreatDoor
set_option linter.unusedVariables false
set_option maxHeartbeats 16000000
set_option maxRecDepth 100000
section
open Go Go.RowKit Tryz
def UbS(w:World)(B b:Nat):Prop:=B<=b/\∃cs fz,w.heap[b]? =some (.cells cs 5 fz)
def Ub(w:World)(B:Nat)(v:Value)(l:List UInt8):Prop:=Bs (UbS w B) w v l
theorem Ub.of_own{w:World}{B:Nat}{v:Value}{l:List UInt8}(h:Ob 5 w B v l):Ub w B v l:=by
 have hs:=h.bs;rcases h.2 with⟨rfl,hn⟩|⟨g,cap,cur,rfl,hB,hh,_⟩
 .obtain⟨h1,A,c,h2,h3,h4,h5,h6⟩:=hs;exact⟨h1,A,c,h2,h3,h4,h5,fun hl=>by omega⟩
 .obtain⟨h1,A,c,h2,h3,h4,h5,h6⟩:=hs;refine⟨h1,A,c,h2,h3,h4,h5,fun hl=> ?_⟩;obtain⟨b,o,hA,_,hc⟩:=h6 hl;injection h2 with hA2
  rw [hA]at hA2;injection hA2 with hA2
  injection hA2 with hb
  subst hb;exact⟨g,o,hA,⟨hB,_,_,hh⟩,hc⟩
theorem Ub.bs{w:World}{B:Nat}{v:Value}{l:List UInt8}(h:Ub w B v l):Bs (fun _=>True) w v l:=Sl.more h fun _ _=>trivial
theorem Ub.len{w:World}{B:Nat}{A:Option Addr}{k c:Nat}{l:List UInt8}(h:Ub w B (.slice A k c) l):k=l.length:=by
 obtain⟨_,A',c',hv,_⟩:=h;injection hv
theorem Ub.keep{w w':World}{B:Nat}{v:Value}{l:List UInt8}(h:Ub w B v l)(hk:∀b,UbS w B b->w'.heap[b]? =w.heap[b]?):Ub w' B v l:=by
 obtain⟨h1,A,c,h2,h3,h4,h5,h6⟩:=h;refine⟨h1,A,c,h2,h3,h4,h5,fun hl=> ?_⟩;obtain⟨b,o,hA,hs,hc⟩:=h6 hl;have hb:=hk b hs;obtain⟨hB,cs,fz,hh⟩:=hs;refine⟨b,o,hA,⟨hB,cs,fz,hb.trans hh⟩,fun j u hu=> ?_⟩;rw [yR (a:=⟨b,o+j,none⟩) hb];exact hc j u hu
theorem Ub.later{w w':World}{B:Nat}{v:Value}{l:List UInt8}(h:Ub w B v l)(hb:Below w.heap.size w w'):Ub w' B v l:=
 h.keep fun b ⟨_,cs,fz,hh⟩=>hb.block b (lt_of_block hh)
theorem Ub.lower{w:World}{B B':Nat}{v:Value}{l:List UInt8}(h:Ub w B v l)(hB:B'<=B):Ub w B' v l:=Sl.more h fun b ⟨h1,h2⟩=>⟨yD hB h1,h2⟩
theorem Ub.beside{w w':World}{B:Nat}{v:Value}{l:List UInt8}(h:Ub w B v l){g:Nat}{t:TypeId}{cs:Array Value}(hb:Blk w g t cs)(hne:5≠t)(hg:w.grownBy w' (some g)):Ub w' B v l:=
 h.keep fun b ⟨_,cs',fz,hh⟩=>hg.block b (lt_of_block hh) (fun e=>by
  injection e with e
  subst e;unfold Blk at hb;rw [hh]at hb;injection hb with hb
  injection hb with _ hb
  exact hne hb)
def Rd(w:World)(g B:Nat)(l:List UInt8)(err:Nat):Prop:=∃A k c,Blk w g 181 #[.slice A k c,.int .i64 (err:Int)]/\Ub w B (.slice A k c) l
theorem Rd.later{w w':World}{g B:Nat}{l:List UInt8}{err:Nat}(h:Rd w g B l err)(hb:Below w.heap.size w w'):Rd w' g B l err:=by
 obtain⟨A,k,c,h1,h2⟩:=h;exact⟨A,k,c,h1.later hb,h2.later hb⟩
theorem Rd.lt{w:World}{g B:Nat}{l:List UInt8}{err:Nat}(h:Rd w g B l err):g<w.heap.size:=by
 obtain⟨A,k,c,h1,h2⟩:=h;exact h1.lt
theorem Rd.far{w:World}{g B:Nat}{l:List UInt8}{err:Nat}(h:Rd w g B l err){g':Nat}{t:TypeId}{cs:Array Value}(hb:Blk w g' t cs)(h1:t≠181)(h2:5≠t)(i:Nat)(u:Value):Rd (w.setCell ⟨g',i,none⟩ u) g B l err:=by
 obtain⟨A,k,c,h3,h4⟩:=h;exact⟨A,k,c,h3.far (p:=⟨g',i,none⟩) (fun e=>Blk.ne h3 hb (fun h=>h1 h.symm) e) _,h4.beside hb h2 (z0n _ _ _ _)⟩
theorem zCh(S:Nat->Prop)(v0:Value)(l:List UInt8)(w:World)(hl:l.length<=1099511627776)(hr:Bs S w v0 l):
 Calls prog 55 #[v0] w fun e w'=>∃g,e= .returned (.pointer (some ⟨g,0,none⟩))/\w.heap.size<=g/\Rd w' g w.heap.size l 0/\Below w.heap.size w w':=by
 have HR:=zz hr;obtain⟨A,c,rfl,hlc,hcm,hA0,hA⟩:=hr.at;clear hA hr hA0;go_enter func55,ntmps55
 go_wp2_with (at_builtin;(refine z02 _ rfl (.tmp 3) (.tmp 4) z0p rfl (Ob.made _ _ w.heap.size (y5 _) (by simp)) (Sl.alloc1 HR.out _) rfl rfl (by simp;omega) (by simp) ?_);intro A1 k1 c1 w1 hown1 hg1 hat1)
 have hbl1:Below w.heap.size w w1:=z01 ((y7 _ _).alloc (y5 _) _) (Ob.made _ _ w.heap.size (y5 _) (by simp)) hg1 (by simp);have hs1:=hbl1.size;go_ret
 refine⟨w1.heap.size,rfl,hs1,⟨A1,k1,c1,Blk.new _ _ _,?_⟩,hbl1.alloc hs1 _⟩;exact(Ub.of_own (by simpa using hown1)).later ((y7 _ _).alloc (y5 _) _)
theorem z4K(g B:Nat)(l:List UInt8)(err e0:Nat)(w:World)(hr:Rd w g B l err)(he:e0<=1000)(he2:err<=1000):
 Calls prog 132 #[.pointer (some ⟨g,0,none⟩),.int .i64 e0] w fun e w'=>e= .returned (.bool false)/\Rd w' g B l (if err=0 then e0 else err)/\w.grownBy w' (some g):=by
 have HR:=zz hr;obtain⟨A,k,c,hb,hown⟩:=hr;have d1:w.cell? ⟨g,1,none⟩=some (.int .i64 (err:Int)):=hb.cell 1;have f1:=hb.free 1;by_cases h0:err=0
 .subst h0;go_enter func132,ntmps132
  go_wp2_with fail
  go_ret
  exact⟨rfl,⟨A,k,c,hb.put 1 _,hown.beside hb (by decide) (z0n _ _ _ _)⟩,z0n _ _ _ _⟩
 .have t0:((err:Int)==0)=false:=by rw [yV];omega
  go_enter func132,ntmps132
  go_wp2_with fail
  go_ret
  exact⟨rfl,HR.out,Yw _ _⟩
def zBe(e:Nat):Nat:=if e=10 then 30 else e
theorem z6x:∀ (l:List UInt8) (i v er:Nat),z7o i v l= .error er->er=10∨er=12
 | [],i,v,er,h=>by rw [z7o]at h;cases h;exact .inl rfl
 |b::l,i,v,er,h=>by
  rw [z7o]at h
  split at h
  .cases h;exact .inr rfl
  .split at h
   .cases h
   .exact z6x l _ _ er h
theorem z7V(g B:Nat)(l:List UInt8)(err:Nat)(w:World)(hr:Rd w g B l err)(h0:err≠0):
 Calls prog 93 #[.pointer (some ⟨g,0,none⟩)] w fun e w'=>e= .returned (.tuple #[.int .u64 0,.slice none 0 0,.bool false])/\w=w':=by
 obtain⟨A,k,c,hb,hown⟩:=hr;have d1:w.cell? ⟨g,1,none⟩=some (.int .i64 (err:Int)):=hb.cell 1;have t0:((err:Int) != 0)=true:=by rw [Yn];omega
 clear hb hown;go_enter func93,ntmps93
 go_wp2_with fail
 go_ret3
 exact⟨rfl,rfl⟩
theorem z9V(g B:Nat)(l:List UInt8)(x n:Nat)(w:World)(hr:Rd w g B l 0)(hl:l.length<=1099511627776)(hg:z0o l= .ok (x,n)):
 Calls prog 93 #[.pointer (some ⟨g,0,none⟩)] w fun e w'=>∃A k c,e= .returned (.tuple #[.int .u64 x,.slice A k c,.bool true])/\Ob 5 w' w.heap.size (.slice A k c) (l.drop n)/\Below w.heap.size w w':=by
 obtain⟨A,k,c,hb,hown⟩:=hr;have d0:w.cell? ⟨g,0,none⟩=some (.slice A k c):=hb.cell 0;have d1:w.cell? ⟨g,1,none⟩=some (.int .i64 0):=hb.cell 1;have HO:=zz hown;clear hb hown;go_enter func93,ntmps93
 go_wp2_with fail
 refine(z4L _ _ l w hl HO.out.bs).mono ?_;rintro e w1 ⟨hok,_⟩;obtain⟨A1,k1,c1,rfl,hown1,hbl1⟩:=hok x n hg;clear hok;go_wp2_with fail
 go_ret3
 exact⟨A1,k1,c1,rfl,hown1,hbl1⟩
theorem z7U(g B:Nat)(l:List UInt8)(er:Nat)(w:World)(hr:Rd w g B l 0)(hl:l.length<=1099511627776)(hg:z0o l= .error er):
 Calls prog 93 #[.pointer (some ⟨g,0,none⟩)] w fun e w'=>e= .returned (.tuple #[.int .u64 0,.slice none 0 0,.bool false])/\Rd w' g B l (zBe er)/\w.grownBy w' (some g):=by
 have HR:=zz hr;obtain⟨A,k,c,hb,hown⟩:=hr;have d0:w.cell? ⟨g,0,none⟩=some (.slice A k c):=hb.cell 0;have d1:w.cell? ⟨g,1,none⟩=some (.int .i64 0):=hb.cell 1;have HO:=zz hown;have hcase:=z6x l 0 0 er hg;clear hb hown;rcases hcase with rfl|rfl
 .go_enter func93,ntmps93
  go_wp2_with fail
  refine(z4L _ _ l w hl HO.out.bs).mono ?_;rintro e w1 ⟨_,herr⟩;obtain⟨rfl,hbl1⟩:=herr _ hg;have HR1:=zz (HR.out.later hbl1);clear herr;go_wp2_with fail
  refine(z4K g B l 0 30 w1 HR1.out (by omega) (by omega)).mono ?_;rintro e w2 ⟨rfl,hr2,hg2⟩;go_wp2_with fail
  go_ret3
  exact⟨rfl,hr2,(z0Q hbl1 _).trans hg2⟩
 .go_enter func93,ntmps93
  go_wp2_with fail
  refine(z4L _ _ l w hl HO.out.bs).mono ?_;rintro e w1 ⟨_,herr⟩;obtain⟨rfl,hbl1⟩:=herr _ hg;have HR1:=zz (HR.out.later hbl1);clear herr;go_wp2_with fail
  refine(z4K g B l 0 12 w1 HR1.out (by omega) (by omega)).mono ?_;rintro e w2 ⟨rfl,hr2,hg2⟩;go_wp2_with fail
  go_ret3
  exact⟨rfl,hr2,(z0Q hbl1 _).trans hg2⟩
def z0k(l:List UInt8)(err:Nat)(most:Int):Nat×List UInt8×Nat:=
 if err≠0 then(0,l,err)else match z0o l with
  | .error er=>(0,l,zBe er)
  | .ok (x,n)=>if most<(x:Int)then(0,l,32)else(x,l.drop n,0)
theorem z6N{l:List UInt8}{er:Nat}(h:z0o l= .error er):zBe er<=1000/\zBe er≠0:=by
 rcases z6x l 0 0 er h with rfl|rfl<;>decide
def z60(g:Nat):Value:= .func (Fn.func 93) #[.pointer (some ⟨g,0,none⟩)] #[]
theorem z8s(g B:Nat)(l:List UInt8)(x n:Nat)(most:Int)(w:World)(hr:Rd w g B l 0)(hl:l.length<=1099511627776)(hg:z0o l= .ok (x,n))(hm:most<=9223372036854775807)(hx:(x:Int)<=most):
 Calls prog 133 #[.pointer (some ⟨g,0,none⟩),z60 g,.int .i64 most] w fun e w'=>∃A k c,e= .returned (.tuple #[.int .i64 x,.slice A k c,.bool true])/\Ob 5 w' w.heap.size (.slice A k c) (l.drop n)/\Below w.heap.size w w':=by
 obtain⟨m,rfl⟩:∃m:Nat,most=(m:Int):=⟨most.toNat,by omega⟩;have hxm:x<=m:=by omega
 unfold z60;have HT:=zz (z9V g B l x n w hr hl hg);clear hr hg;go_enter func133,ntmps133
 go_wp2_with fail
 refine HT.out.mono ?_;rintro e w1 ⟨A1,k1,c1,rfl,hown1,hbl1⟩;have t0:decide (m<x)=false:=by rw [yj];omega
 go_wp2_with fail
 go_ret3
 exact⟨A1,k1,c1,rfl,hown1,hbl1⟩
theorem z9x(g B:Nat)(l:List UInt8)(x n:Nat)(most:Int)(w:World)(hr:Rd w g B l 0)(hl:l.length<=1099511627776)(hg:z0o l= .ok (x,n))(hm:most<=9223372036854775807)(hm2: -9223372036854775808<=most)(hx:most<(x:Int)):
 Calls prog 133 #[.pointer (some ⟨g,0,none⟩),z60 g,.int .i64 most] w fun e w'=>e= .returned (.tuple #[.int .i64 0,.slice none 0 0,.bool false])/\Rd w' g B l 32/\w.grownBy w' (some g):=by
 unfold z60;have HT:=zz (z9V g B l x n w hr hl hg);have HR:=zz hr;have hx64:=(z2R hg).1;clear hr hg;by_cases h0:most<0
 .go_enter func133,ntmps133
  go_wp2_with fail
  refine HT.out.mono ?_;rintro e w1 ⟨A1,k1,c1,rfl,hown1,hbl1⟩;have HR1:=zz (HR.out.later hbl1);go_wp2_with fail
  refine(z4K g B l 0 32 w1 HR1.out (by omega) (by omega)).mono ?_;rintro e w2 ⟨rfl,hr2,hg2⟩;go_wp2_with fail
  go_ret3
  exact⟨rfl,hr2,(z0Q hbl1 _).trans hg2⟩
 .obtain⟨m,rfl⟩:∃m:Nat,most=(m:Int):=⟨most.toNat,by omega⟩;have hxm:m<x:=by omega
  go_enter func133,ntmps133
  go_wp2_with fail
  refine HT.out.mono ?_;rintro e w1 ⟨A1,k1,c1,rfl,hown1,hbl1⟩;have t0:decide (m<x)=true:=by rw [yd];omega
  have HR1:=zz (HR.out.later hbl1);go_wp2_with fail
  refine(z4K g B l 0 32 w1 HR1.out (by omega) (by omega)).mono ?_;rintro e w2 ⟨rfl,hr2,hg2⟩;go_wp2_with fail
  go_ret3
  exact⟨rfl,hr2,(z0Q hbl1 _).trans hg2⟩
theorem z6B(g B:Nat)(l:List UInt8)(most:Int)(w:World)(err err':Nat)
 (ht:Calls prog 93 #[.pointer (some ⟨g,0,none⟩)] w fun e w'=>e= .returned (.tuple #[.int .u64 0,.slice none 0 0,.bool false])/\Rd w' g B l err'/\w.grownBy w' (some g)):
 Calls prog 133 #[.pointer (some ⟨g,0,none⟩),z60 g,.int .i64 most] w fun e w'=>e= .returned (.tuple #[.int .i64 0,.slice none 0 0,.bool false])/\Rd w' g B l err'/\w.grownBy w' (some g):=by
 unfold z60;have HT:=zz ht;clear ht;go_enter func133,ntmps133
 go_wp2_with fail
 refine HT.out.mono ?_;rintro e w1 ⟨rfl,hr1,hg1⟩;go_wp2_with fail
 go_ret3
 exact⟨rfl,hr1,hg1⟩
theorem zA6(g B:Nat)(l:List UInt8)(err:Nat)(most:Int)(w:World)(hr:Rd w g B l err)(hB:B<=w.heap.size)(hl:l.length<=1099511627776)(hm:most<=9223372036854775807)(hm2: -9223372036854775808<=most):
 Calls prog 95 #[.pointer (some ⟨g,0,none⟩),.int .i64 most] w fun e w'=>e= .returned (.int .i64 ((z0k l err most).1:Int))/\Rd w' g B (z0k l err most).2.1 (z0k l err most).2.2/\w.grownBy w' (some g):=by
 have hmf:=z0N prog;have no:∀err',z0k l err most=(0,l,err')->(Calls prog 133 #[.pointer (some ⟨g,0,none⟩),z60 g,.int .i64 most] w fun e w'=>e= .returned (.tuple #[.int .i64 0,.slice none 0 0,.bool false])/\Rd w' g B l err'/\w.grownBy w' (some g))->
  Calls prog 95 #[.pointer (some ⟨g,0,none⟩),.int .i64 most] w fun e w'=>e= .returned (.int .i64 ((z0k l err most).1:Int))/\Rd w' g B (z0k l err most).2.1 (z0k l err most).2.2/\w.grownBy w' (some g):=by
  intro err' hrc hb;have HRC:=zz hrc;have HBL:=zz hb;clear hrc hb;go_enter func95,ntmps95
  go_wp2_with fail
  refine HBL.out.mono ?_;rintro e w1 ⟨rfl,hr1,hg1⟩;go_wp2_with fail
  go_ret
  rw [HRC.out];exact⟨rfl,hr1,hg1⟩
 by_cases h0:err=0
 .subst h0;cases hgv:z0o l with
  |error er=>
   refine no (zBe er) (by unfold z0k;rw [yA (by simp),hgv]) ?_;exact z6B g B l most w 0 _ (z7U g B l er w hr hl hgv)
  |ok xn=>
   obtain⟨x,n⟩:=xn;by_cases hx:most<(x:Int)
   .refine no 32 (by unfold z0k;rw [yA (by simp),hgv];simp only;rw [yB hx]) ?_;exact z9x g B l x n most w hr hl hgv hm hm2 hx
   .have HRC:Hid (z0k l 0 most=(x,l.drop n,0)):=by unfold z0k;rw [yA (by simp),hgv];simp only;rw [yA hx];rfl
    have HBL:=zz (z8s g B l x n most w hr hl hgv hm (by omega));have HR:=zz hr;clear no hr;go_enter func95,ntmps95
    go_wp2_with fail
    refine HBL.out.mono ?_;rintro e w1 ⟨A1,k1,c1,rfl,hown1,hbl1⟩;obtain⟨A,k,c,hb1,_⟩:=HR.out.later hbl1;have d0:w1.cell? ⟨g,0,none⟩=some (.slice A k c):=hb1.cell 0;have f0:=hb1.free 0;go_wp2_with fail
    go_ret
    rw [HRC.out];exact⟨rfl,⟨A1,k1,c1,hb1.put 0 _,(Ub.of_own (hown1.lower hB)).beside hb1 (by decide) (z0n _ _ _ _)⟩,(z0Q hbl1 _).trans (z0n _ _ _ _)⟩
 .refine no err (by unfold z0k;rw [yB h0]) ?_;refine z6B g B l most w err err ((z7V g B l err w hr h0).mono ?_);rintro e w1 ⟨rfl,rfl⟩;exact⟨rfl,hr,Yw _ _⟩
def z2w(l:List UInt8)(err:Nat):Nat:=if err=0/\0<l.length then 31 else err
theorem zIl(g B:Nat)(l:List UInt8)(err:Nat)(w:World)(hr:Rd w g B l err)(hl:l.length<=1099511627776):
 Calls prog 57 #[.pointer (some ⟨g,0,none⟩)] w fun e w'=>e= .returned (.int .i64 (z2w l err:Int))/\w=w':=by
 obtain⟨A,k,c,hb,hown⟩:=hr;have d0:w.cell? ⟨g,0,none⟩=some (.slice A k c):=hb.cell 0;have d1:w.cell? ⟨g,1,none⟩=some (.int .i64 (err:Int)):=hb.cell 1;obtain rfl:=hown.len;clear hb hown;by_cases h0:err=0
 .subst h0;by_cases hz:0<l.length
  .have HE:Hid (z2w l 0=31):=by unfold z2w;rw [yB ⟨rfl,hz⟩];rfl
   go_enter func57,ntmps57
   go_wp2_with fail
   go_ret
   rw [HE.out];exact⟨rfl,rfl⟩
  .have HE:Hid (z2w l 0=0):=by unfold z2w;rw [yA (fun h=>hz h.2)];rfl
   go_enter func57,ntmps57
   go_wp2_with fail
   go_ret
   rw [HE.out];exact⟨rfl,rfl⟩
 .have HE:Hid (z2w l err=err):=by unfold z2w;rw [yA (fun h=>h0 h.1)];rfl
  have t0:((err:Int)==0)=false:=by rw [yV];omega
  clear h0;go_enter func57,ntmps57
  go_wp2_with fail
  go_ret
  rw [HE.out];exact⟨rfl,rfl⟩
end
section
open Go Tryz
def zIz(e:Nat):Nat:=if e=10 then 30 else e
def z16(l:List UInt8)(err:Nat):Nat×List UInt8×Nat:=
 if err≠0 then(0,l,err)else match z0o l with
  | .error er=>(0,l,zIz er)
  | .ok (x,n)=>(x,l.drop n,0)
def z0S(l:List UInt8)(err:Nat):List UInt8×List UInt8×Nat:=
 if err≠0 then([],l,err)else match z0o l with
  | .error er=>([],l,zIz er)
  | .ok (x,n)=>if 65536<x then([],l,32)else if(l.drop n).length<x then([],l,30)else((l.drop n).take x,(l.drop n).drop x,0)
theorem z8c{t:List UInt8}(ht:t.length<=65536)(s:List UInt8):z0S (z0C t.length++(t++s)) 0=(t,s,0):=by
 unfold z0S;rw [yA (by simp),z42 (by unfold U64;omega)];simp only [QT];rw [yA (by omega),yA (by simp)];simp
def zAz(q:Nat)(t:List UInt8):List UInt8:=z0C q++(z0C t.length++t)
def zDy(q:Nat)(t:List UInt8):List UInt8:=zAz q t++beB (z4c (zAz q t)).toNat 4
def z7Q(q:Nat)(t:List UInt8):List UInt8:=beB (zDy q t).length 4++zDy q t
def z1h(l:List UInt8):Option ((Nat×List UInt8)×Nat):=
 if l.length<4∨(l.drop 4).length<deB (l.take 4)then none
 else match z27 ((l.drop 4).take (deB (l.take 4)))with
  | .error _=>none
  | .ok f=>
    if(z0S (z16 f 0).2.1 (z16 f 0).2.2).2.2=0/\(z0S (z16 f 0).2.1 (z16 f 0).2.2).2.1= []/\(z0S (z16 f 0).2.1 (z16 f 0).2.2).1.length<=32768
    then some (((z16 f 0).1,(z0S (z16 f 0).2.1 (z16 f 0).2.2).1),4+deB (l.take 4))else none
theorem zHv{q:Nat}{t:List UInt8}(hq:q<U64)(ht:t.length<=32768):(zAz q t).length<=32800:=by
 unfold zAz;have h1:=z5p 9 q (yE hq (by unfold U64;decide));have h2:=z5p 9 t.length (QY ht (by decide));rw [y6,y6];omega
theorem zCi(q:Nat)(t:List UInt8):(zDy q t).length=(zAz q t).length+4:=by
 unfold zDy;rw [y6,z18]
theorem z9P(q:Nat)(t:List UInt8):(z7Q q t).length=4+((zAz q t).length+4):=by
 unfold z7Q;rw [y6,z18,zCi]
end
section
open Go Go.RowKit Tryz
theorem zHz(g B:Nat)(l:List UInt8)(err:Nat)(w:World)(hr:Rd w g B l err)(hB:B<=w.heap.size)(hl:l.length<=1099511627776):
 Calls prog 56 #[.pointer (some ⟨g,0,none⟩)] w fun e w'=>e= .returned (.int .u64 ((z16 l err).1:Int))/\Rd w' g B (z16 l err).2.1 (z16 l err).2.2/\w.grownBy w' (some g):=by
 have no:∀err',z16 l err=(0,l,err')->(Calls prog 93 #[.pointer (some ⟨g,0,none⟩)] w fun e w'=>e= .returned (.tuple #[.int .u64 0,.slice none 0 0,.bool false])/\Rd w' g B l err'/\w.grownBy w' (some g))->
  Calls prog 56 #[.pointer (some ⟨g,0,none⟩)] w fun e w'=>e= .returned (.int .u64 ((z16 l err).1:Int))/\Rd w' g B (z16 l err).2.1 (z16 l err).2.2/\w.grownBy w' (some g):=by
  intro err' hrc hb;have HRC:=zz hrc;have HBL:=zz hb;clear hrc hb;go_enter func56,ntmps56
  go_wp2_with fail
  refine HBL.out.mono ?_;rintro e w1 ⟨rfl,hr1,hg1⟩;go_wp2_with fail
  go_ret
  rw [HRC.out];exact⟨rfl,hr1,hg1⟩
 by_cases h0:err=0
 .subst h0;cases hgv:z0o l with
  |error er=>
   exact no (zBe er) (by unfold z16;rw [yA (by simp),hgv];rfl) (z7U g B l er w hr hl hgv)
  |ok xn=>
   obtain⟨x,n⟩:=xn;have HRC:Hid (z16 l 0=(x,l.drop n,0)):=by unfold z16;rw [yA (by simp),hgv];rfl
   have HBL:=zz (z9V g B l x n w hr hl hgv);have HR:=zz hr;clear no hr;go_enter func56,ntmps56
   go_wp2_with fail
   refine HBL.out.mono ?_;rintro e w1 ⟨A1,k1,c1,rfl,hown1,hbl1⟩;obtain⟨A,k,c,hb1,_⟩:=HR.out.later hbl1;have d0:w1.cell? ⟨g,0,none⟩=some (.slice A k c):=hb1.cell 0;have f0:=hb1.free 0;go_wp2_with fail
   go_ret
   rw [HRC.out];exact⟨rfl,⟨A1,k1,c1,hb1.put 0 _,(Ub.of_own (hown1.lower hB)).beside hb1 (by decide) (z0n _ _ _ _)⟩,(z0Q hbl1 _).trans (z0n _ _ _ _)⟩
 .refine no err (by unfold z16;rw [yB h0]) ((z7V g B l err w hr h0).mono ?_);rintro e w1 ⟨rfl,rfl⟩;exact⟨rfl,hr,Yw _ _⟩
theorem z9W(g B:Nat)(l:List UInt8)(w:World)(err':Nat)
 (hb:Calls prog 133 #[.pointer (some ⟨g,0,none⟩),z60 g,.int .i64 65536] w fun e w'=>e= .returned (.tuple #[.int .i64 0,.slice none 0 0,.bool false])/\Rd w' g B l err'/\w.grownBy w' (some g)):
 Calls prog 94 #[.pointer (some ⟨g,0,none⟩)] w fun e w'=>e= .returned (.string (st []))/\Rd w' g B l err'/\w.grownBy w' (some g):=by
 have hmf:=z0N prog;have HBL:=zz hb;clear hb;go_enter func94,ntmps94
 go_wp2_with fail
 refine HBL.out.mono ?_;rintro e w1 ⟨rfl,hr1,hg1⟩;go_wp2_with fail
 go_ret
 exact⟨rfl,hr1,hg1⟩
theorem zBh(g B:Nat)(l:List UInt8)(x n:Nat)(w:World)(hr:Rd w g B l 0)(hl:l.length<=1099511627776)(hg:z0o l= .ok (x,n))(hx:x<=65536)(hs:(l.drop n).length<x):
 Calls prog 94 #[.pointer (some ⟨g,0,none⟩)] w fun e w'=>e= .returned (.string (st []))/\Rd w' g B l 30/\w.grownBy w' (some g):=by
 have hmf:=z0N prog;have HBL:=zz (z8s g B l x n 65536 w hr hl hg (by omega) (by omega));have HR:=zz hr;clear hr;generalize l.drop n=m at*;go_enter func94,ntmps94
 go_wp2_with fail
 refine HBL.out.mono ?_;rintro e w1 ⟨A1,k1,c1,rfl,hown1,hbl1⟩;obtain rfl:=hown1.len;have HR1:=zz (HR.out.later hbl1);have t0:decide (m.length<x)=true:=by rw [yd];exact hs
 go_wp2_with fail
 refine(z4K g B l 0 30 w1 HR1.out (by omega) (by omega)).mono ?_;rintro e w2 ⟨rfl,hr2,hg2⟩;go_wp2_with fail
 go_ret
 exact⟨rfl,hr2,(z0Q hbl1 _).trans hg2⟩
theorem zI1(g B:Nat)(l:List UInt8)(x n:Nat)(w:World)(hr:Rd w g B l 0)(hB:B<=w.heap.size)(hl:l.length<=1099511627776)(hg:z0o l= .ok (x,n))(hx:x<=65536)(hs:¬ (l.drop n).length<x):
 Calls prog 94 #[.pointer (some ⟨g,0,none⟩)] w fun e w'=>e= .returned (.string (st ((l.drop n).take x)))/\Rd w' g B ((l.drop n).drop x) 0/\w.grownBy w' (some g):=by
 have hmf:=z0N prog;have HBL:=zz (z8s g B l x n 65536 w hr hl hg (by omega) (by omega));have HR:=zz hr;have hll:(l.drop n).length<=1099511627776:=by rw [yI];omega
 clear hr;generalize l.drop n=m at*;go_enter func94,ntmps94
 go_wp2_with fail
 refine HBL.out.mono ?_;rintro e w1 ⟨A1,k1,c1,rfl,hown1,hbl1⟩;obtain rfl:=hown1.len;obtain⟨A,k,c,hb1,_⟩:=HR.out.later hbl1;have d0:w1.cell? ⟨g,0,none⟩=some (.slice A k c):=hb1.cell 0;have f0:=hb1.free 0;have HB1:=zz hb1;have t0:decide (m.length<x)=false:=by rw [yj];exact hs
 have hxm:x<=m.length:=by omega
 clear hs hb1;rcases hown1.2 with⟨hv,hn⟩|⟨g1,cap,cur,hv,_,_,hnc,hcm,_⟩
 .injection hv with hA _ hc
  subst hA hc;obtain rfl:m= []:=yX hn;obtain rfl:x=0:=by simpa using hxm
  have cv:=z1J (P:=prog) (Bs.nilv (fun _=>True) (w1.setCell ⟨g,0,none⟩ (.slice none 0 0))) tB tU tS;clear hown1;go_wp2_with fail
  go_ret
  exact⟨rfl,⟨none,0,0,HB1.out.put 0 _,Bs.nilv _ _⟩,(z0Q hbl1 _).trans (z0n _ _ _ _)⟩
 .injection hv with hA _ hc
  subst hA hc;have hu:=(Ub.of_own (hown1.lower hB)).beside HB1.out (by decide) (z0n w1 g 0 (.slice (if c1=x then some ⟨g1,0,none⟩else some ⟨g1,0+x,none⟩) (m.length-x) (c1-x)));have cv:=z1J (P:=prog) (Bs.pre hu.bs hxm) tB tU tS;have hcut:Hid (Ub (w1.setCell ⟨g,0,none⟩ (.slice (if c1=x then some ⟨g1,0,none⟩else some ⟨g1,0+x,none⟩) (m.length-x) (c1-x))) B _ _):=Bs.cut hu hxm;clear hown1 hu;by_cases hcx:c1=x
  .rw [yB hcx]at cv hcut;subst hcx;rw [Zs,show m.length-c1=0 by omega]at cv hcut;go_wp2_with fail
   go_ret
   exact⟨rfl,⟨_,_,_,HB1.out.put 0 _,hcut⟩,(z0Q hbl1 _).trans (z0n _ _ _ _)⟩
  .rw [yA hcx,Y4]at cv hcut;go_wp2_with fail
   go_ret
   exact⟨rfl,⟨_,_,_,HB1.out.put 0 _,hcut⟩,(z0Q hbl1 _).trans (z0n _ _ _ _)⟩
theorem z7W(g B:Nat)(l:List UInt8)(err:Nat)(w:World)(hr:Rd w g B l err)(hB:B<=w.heap.size)(hl:l.length<=1099511627776):
 Calls prog 94 #[.pointer (some ⟨g,0,none⟩)] w fun e w'=>e= .returned (.string (st (z0S l err).1))/\Rd w' g B (z0S l err).2.1 (z0S l err).2.2/\w.grownBy w' (some g):=by
 by_cases h0:err=0
 .subst h0;cases hgv:z0o l with
  |error er=>
   have e:z0S l 0=([],l,zBe er):=by unfold z0S;rw [yA (by simp),hgv];rfl
   rw [e];exact z9W g B l w _ (z6B g B l 65536 w 0 _ (z7U g B l er w hr hl hgv))
  |ok xn=>
   obtain⟨x,n⟩:=xn;by_cases hx:65536<x
   .have e:z0S l 0=([],l,32):=by unfold z0S;rw [yA (by simp),hgv];simp only;rw [yB hx]
    rw [e];exact z9W g B l w _ (z9x g B l x n 65536 w hr hl hgv (by omega) (by omega) (by omega))
   .by_cases hs:(l.drop n).length<x
    .have e:z0S l 0=([],l,30):=by unfold z0S;rw [yA (by simp),hgv];simp only;rw [yA hx,yB hs]
     rw [e];exact zBh g B l x n w hr hl hgv (by omega) hs
    .have e:z0S l 0=((l.drop n).take x,(l.drop n).drop x,0):=by unfold z0S;rw [yA (by simp),hgv];simp only;rw [yA hx,yA hs]
     rw [e];exact zI1 g B l x n w hr hB hl hgv (by omega) hs
 .have e:z0S l err=([],l,err):=by unfold z0S;rw [yB h0]
  rw [e];refine z9W g B l w _ (z6B g B l 65536 w err err ((z7V g B l err w hr h0).mono ?_));rintro e w1 ⟨rfl,rfl⟩;exact⟨rfl,hr,Yw _ _⟩
def z24(l:List UInt8)(err:Nat):Bool×List UInt8×Nat:=
 if err≠0 then(false,l,err)else match l with
  | []=>(false,[],30)
  |b::r=>if 1<b.toNat then(false,b::r,33)else(b.toNat==1,r,0)
theorem zCe(g B gb:Nat)(l:List UInt8)(e0:Nat)(w:World)(hr:Rd w g B l 0)(he:e0<=1000)(hb:Blk w gb 124 #[.pointer (some ⟨g,0,none⟩)]):
 Calls prog 134 #[.int .i64 e0,.pointer (some ⟨gb,0,none⟩)] w fun e w'=>e= .returned (.bool false)/\Rd w' g B l e0/\w.grownBy w' (some g):=by
 have c0:w.cell? ⟨gb,0,none⟩=some (.pointer (some ⟨g,0,none⟩)):=hb.cell 0;have HC:=zz (z4K g B l 0 e0 w hr he (by omega));clear hb hr;go_enter func134,ntmps134
 go_wp2_with fail
 refine HC.out.mono ?_;rintro e w1 ⟨rfl,hr1,hg1⟩;go_wp2_with fail
 go_ret
 exact⟨rfl,hr1,hg1⟩
theorem zB6(n:Nat):(((n:Int))==1)=(n==1):=by
 rw [Zd,Z9,Z9];omega
theorem z8K{w w':World}{row:Option Nat}(h:w.grownBy w' row):w.grownBy w'.drew row:=⟨h.os,h.tape,h.output,h.size,h.block⟩
theorem zFw(g B:Nat)(l:List UInt8)(err:Nat)(w:World)(hr:Rd w g B l err)(hB:B<=w.heap.size)(hl:l.length<=1099511627776):
 Calls prog 96 #[.pointer (some ⟨g,0,none⟩)] w fun e w'=>e= .returned (.bool (z24 l err).1)/\Rd w' g B (z24 l err).2.1 (z24 l err).2.2/\w.grownBy w' (some g):=by
 have hmf:=z0N prog;have hnb:=Blk.new w 124 #[.pointer (some ⟨g,0,none⟩)];have hgl:=hr.lt;have hrl:=hr.later ((y7 _ _).alloc (y5 _) (.cells #[.pointer (some ⟨g,0,none⟩)] 124));have hgr:w.grownBy (w.alloc (.cells #[.pointer (some ⟨g,0,none⟩)] 124)) (some g):=z0Q ((y7 _ _).alloc (y5 _) _) _;have p0:(w.alloc (.cells #[.pointer (some ⟨g,0,none⟩)] 124)).cell? ⟨w.heap.size,0,none⟩=some (.pointer (some ⟨g,0,none⟩)):=hnb.cell 0;obtain⟨A,k,c,hb,hub⟩:=id hrl;have d0:(w.alloc (.cells #[.pointer (some ⟨g,0,none⟩)] 124)).cell? ⟨g,0,none⟩=some (.slice A k c):=hb.cell 0;have d1:(w.alloc (.cells #[.pointer (some ⟨g,0,none⟩)] 124)).cell? ⟨g,1,none⟩=some (.int .i64 (err:Int)):=hb.cell 1;have f0:=hb.free 0;have f1:=hb.free 1;obtain rfl:=hub.len;have HU:=zz hub;have HBK:=zz hb;have HRL:=zz hrl;clear hr hub hb hrl;by_cases h0:err=0
 .subst h0;rcases l with _|⟨x,l⟩
  .have HV:Hid (z24 [] 0=(false,[],30)):=by unfold z24;rw [Hid,yA (by simp)]
   have HC:=zz (zCe g B w.heap.size [] 30 _ HRL.out (by omega) hnb);go_enter func96,ntmps96
   go_wp2_with fail
   refine HC.out.mono ?_;rintro e w1 ⟨rfl,hr1,hg1⟩;go_wp2_with fail
   go_ret
   rw [HV.out];exact⟨rfl,hr1,hgr.trans hg1⟩
  .obtain⟨A',c',hv,hlc,hcm,_,hcell⟩:=Bs.at HU.out;injection hv with hA _ hc
   subst hA hc;obtain⟨b,o,rfl,hS,hcc⟩:=hcell (by simp);have cx:(w.alloc (.cells #[.pointer (some ⟨g,0,none⟩)] 124)).cell? ⟨b,o,none⟩=some (.int .u8 (x.toNat:Int)):=by
    have:=hcc 0 (by simp);simpa using this
   have hlen:(x::l).length=l.length+1:=rfl;have hxb:=x.toNat_lt;have HCUT:Hid (Ub (w.alloc (.cells #[.pointer (some ⟨g,0,none⟩)] 124)) B _ _):=Bs.cut HU.out (show 1<=(x::l).length by simp);rw [hlen]at d0 hlc;have HLEN:=zz hlen;clear hcell hcc hlen;by_cases hx:1<x.toNat
   .have HV:Hid (z24 (x::l) 0=(false,x::l,33)):=by unfold z24;rw [Hid,yA (by simp)];simp only;rw [yB hx]
    have HC:=zz (zCe g B w.heap.size (x::l) 33 _ HRL.out (by omega) hnb);go_enter func96,ntmps96
    go_wp2_with fail
    refine HC.out.mono ?_;rintro e w1 ⟨rfl,hr1,hg1⟩;go_wp2_with fail
    go_ret
    rw [HV.out];exact⟨rfl,hr1,hgr.trans hg1⟩
   .have HV:Hid (z24 (x::l) 0=(x.toNat==1,l,0)):=by unfold z24;rw [Hid,yA (by simp)];simp only;rw [yA hx]
    rw [HLEN.out,YS,Yr,QZ]at HCUT;by_cases hc1:c=1
    case' pos=>
     rw [yB hc1]at HCUT;subst hc1;have hl0:l.length=0:=by omega
     rw [hl0]at HCUT
    case' neg=>
     rw [yA hc1]at HCUT
    all_goals
     go_enter func96,ntmps96
     go_wp2_with fail
     generalize w.alloc (.cells #[.pointer (some ⟨g,0,none⟩)] 124)=W at*;go_region
     all_goals
      go_wp2_with fail
      go_ret
      rw [HV.out];exact⟨by simp only [zB6];rfl,⟨_,_,_,Blk.drew (HBK.out.put 0 _),(Ub.beside HCUT HBK.out (by decide) (z8K (z0n _ _ _ _)))⟩,hgr.trans (z8K (z0n _ _ _ _))⟩
 .have HV:Hid (z24 l err=(false,l,err)):=by unfold z24;rw [Hid,yB h0]
  have t0:((err:Int) != 0)=true:=by rw [Yn];omega
  clear h0;go_enter func96,ntmps96
  go_wp2_with fail
  go_ret
  rw [HV.out];exact⟨rfl,HRL.out,hgr⟩
theorem zHj(l:List UInt8)(h:4<=l.length):(l.take (l.length-4)++beB (z4c (l.take (l.length-4))).toNat 4=l)↔deB ((l.drop (l.length-4)).take 4)=(z4c (l.take (l.length-4))).toNat:=by
 have hd:(l.drop (l.length-4)).length=4:=by rw [yI];omega
 have ht:(l.drop (l.length-4)).take 4=l.drop (l.length-4):=ya (by omega);rw [ht];constructor
 .intro he;have:l.drop (l.length-4)=beB (z4c (l.take (l.length-4))).toNat 4:=by
   have h2:l.take (l.length-4)++beB (z4c (l.take (l.length-4))).toNat 4=l.take (l.length-4)++l.drop (l.length-4):=by rw [he,yT]
   exact(List.append_cancel_left h2).symm
  rw [this,z6o 4 _ (sum4 _)]
 .intro he;have:=zJE (l.drop (l.length-4));rw [hd]at this;rw [<-he,this,yT]
def zH7(l:List UInt8)(w:World)(e:Ending)(w':World):Prop:=
 (∀b,z27 l= .ok b->∃A k c,e= .returned (.tuple #[.slice A k c,.int .i64 0])/\Ob 5 w' w.heap.size (.slice A k c) b)/\
 (∀er,z27 l= .error er->e= .returned (.tuple #[.slice none 0 0,.int .i64 (er:Int)]))/\Below w.heap.size w w'
theorem z9L(S:Nat->Prop)(v0:Value)(l:List UInt8)(w:World)(hl:l.length<=1099511627776)(hr:Bs S w v0 l):
 Calls prog 166 #[v0] w (zH7 l w):=by
 have HR:=zz hr;have HR2:Hid (Bs (fun b=>b<w.heap.size) w v0 l):=(Sl.lt hr (by omega)).more (fun _ h=>h.2);obtain⟨A,c,rfl,hlc,hcm,hA0,hA⟩:=hr.at;by_cases h4:l.length<4
 .clear hA hr hA0;have HO:Hid (z27 l= .error 20):=by unfold z27;rw [yB h4];rfl
  go_enter func166,ntmps166
  go_wp2_with fail
  go_ret2
  exact⟨fun b hb=>(by rw [HO.out]at hb;cases hb),fun er her=>(by rw [HO.out]at her;cases her;rfl),y7 _ _⟩
 .obtain⟨b,o,rfl,_,_⟩:=hA (by omega);clear hA hA0;have h4':4<=l.length:=by omega
  have HI:=zz (zHj l h4');have hn4:(l.drop (l.length-4)).length=4:=by rw [yI];omega
  have hc1:=Bs.pre hr (Nat.sub_le l.length 4);have HC1:=zz hc1;have hc2:Bs (fun b=>b<w.heap.size) w (.slice (some ⟨b,o+(l.length-4),none⟩) 4 (c-(l.length-4))) (l.drop (l.length-4)):=by
   have h:=Bs.cut HR2.out (Nat.sub_le l.length 4);rw [yA (by omega),show l.length-(l.length-4)=4 from by omega]at h;exact h
  have HC2:=zz hc2;have e4:l.length-(l.length-4)=4:=by omega
  have E4:=zz e4;have hlt:(l.take (l.length-4)).length=l.length-4:=by rw [yC];omega
  have HLT:=zz hlt;have HO:Hid (z27 l=if l.take (l.length-4)++beB (z4c (l.take (l.length-4))).toNat 4=l then .ok (l.take (l.length-4))else .error 21):=by unfold z27;rw [yA h4];rfl
  have hne:¬c=l.length-4:=by omega
  have HN4:=zz hn4;clear hr hc1 hc2 h4 e4 hlt hn4;go_enter func166,ntmps166
  go_wp2_with (at_builtin;go_loud (refine z02 _ rfl (.tmp 11) (.tmp 16) z0p rfl (Ob.made _ _ w.heap.size (y5 _) (by simp)) (Sl.alloc1 HC1.out _) rfl rfl (by rw [HLT.out];simp;omega) (by simp) ?_);intro A1 k1 c1 w1 hown1 hg1 hat1)
  have hbl1:Below w.heap.size w w1:=z01 ((y7 _ _).alloc (y5 _) _) (Ob.made _ _ w.heap.size (y5 _) (by simp)) hg1 (by simp);have hs1:=hbl1.size;have hown1':Ob 5 w1 w.heap.size (.slice A1 k1 c1) (l.take (l.length-4)):=hown1;have HR1:Hid (Bs (fun b=>b<w.heap.size) w1 _ _):=Sl.below HC2.out hbl1 (fun _ h=>h);have HW1:=zz hown1';clear hown1 hg1 hat1 hown1';rw [E4.out];refine(zF7 _ _ (l.drop (l.length-4)) 4 w1 (by omega) (by omega) (by rw [HN4.out];omega) (by rw [HN4.out];omega) HR1.out).mono ?_;rintro e w2 ⟨A2,k2,c2,rfl,_,hbl2⟩;have HW2:=zz (HW1.out.later hbl2);have hbl2':=hbl1.trans (hbl2.mono hs1);clear hbl2 hbl1;go_wp2_with fail
  refine(zIu _ _ (l.take (l.length-4)) w2 (by rw [HLT.out];omega) HW2.out.bs).mono ?_;rintro e w3 ⟨rfl,hbl3⟩;have HW3:=zz (HW2.out.later hbl3);have hbl3':=hbl2'.trans (hbl3.mono hbl2'.size);clear hbl3 hbl2';by_cases hd:deB ((l.drop (l.length-4)).take 4)=(z4c (l.take (l.length-4))).toNat
  .have HO2:Hid (z27 l= .ok (l.take (l.length-4))):=by rw [Hid,HO.out,yB (HI.out.2 hd)]
   have HD:=zz hd;rw [hd];clear hd;go_wp2_with fail
   go_ret2
   exact⟨fun b hb=>(by rw [HO2.out]at hb;cases hb;exact⟨A1,k1,c1,rfl,HW3.out⟩),fun er her=>(by rw [HO2.out]at her;cases her),hbl3'⟩
  .have HO2:Hid (z27 l= .error 21):=by rw [Hid,HO.out,yA (fun h=>hd (HI.out.1 h))]
   generalize deB ((l.drop (l.length-4)).take 4)=dv at*;have t1:((dv:Int)==((z4c (l.take (l.length-4))).toNat:Int))=false:=by rw [yV];omega
   have t2:((dv:Int) != ((z4c (l.take (l.length-4))).toNat:Int))=true:=by rw [Yn];omega
   clear hd HI;go_wp2_with fail
   go_ret2
   exact⟨fun b hb=>(by rw [HO2.out]at hb;cases hb),fun er her=>(by rw [HO2.out]at her;cases her;rfl),hbl3'⟩
def z2L:Nat->List UInt8×Nat->List Cel->List Cel×(List UInt8×Nat)
 |0,s,acc=>(acc,s)
 |n+1,s,acc=>z2L n (z0S (z0S s.1 s.2).2.1 (z0S s.1 s.2).2.2).2 (acc++ [((z0S s.1 s.2).1,(z0S (z0S s.1 s.2).2.1 (z0S s.1 s.2).2.2).1)])
def zKO(f:List UInt8):Option (Bool×Nat×List Cel):=
 match z24 f 0 with
 |(b,s1,e1)=>match z0k s1 e1 256 with
  |(n,s2,e2)=>match z0k s2 e2 2048 with
   |(c,s3,e3)=>match z2L c (s3,e3) []with
    |(cs,s4,e4)=>if z2w s4 e4=0/\z1I (n:Int) cs=0 then some (b,n,cs)else none
def z3O(l:List UInt8):Option (Bool×Nat×List Cel):=match z27 l with
 | .error _=>none
 | .ok f=>zKO f
theorem zDi{l:List UInt8}{er:Nat}(h:z27 l= .error er):er=20∨er=21:=by
 unfold z27 at h
 split at h
 .cases h;exact .inl rfl
 .split at h
  .cases h
  .cases h;exact .inr rfl
theorem zDj{l f:List UInt8}(h:z27 l= .ok f){m:Nat}(hm:l.length<=m):f.length<=m:=by
 unfold z27 at h
 split at h
 .cases h
 .split at h
  .cases h;rw [yC];omega
  .cases h
theorem zDm{w w':World}{B:Nat}{e:TypeId}{size n:Nat}{v:Value}{xs:List Value}(h:w.ownsRow B e size v n xs){g:Nat}{t:TypeId}{cs:Array Value}(hb:Blk w g t cs)(hne:e≠t)(hg:w.grownBy w' (some g)):w'.ownsRow B e size v n xs:=by
 have hn:=z31 h hb hne;obtain⟨h1,h2⟩:=h;refine⟨h1,?_⟩;rcases h2 with h2|⟨g',cap,cur,hv,hB,hh,r⟩
 .exact .inl h2
 .refine .inr ⟨g',cap,cur,hv,hB,?_,r⟩;exact(hg.block g' (lt_of_block hh) (fun e=>hn (by rw [hv];simp [Value.ownBlock];injection e))).trans hh
theorem Rd.blk{w:World}{g B:Nat}{l:List UInt8}{err:Nat}(h:Rd w g B l err):∃cs,Blk w g 181 cs:=by
 obtain⟨A,k,c,h1,_⟩:=h;exact⟨_,h1⟩
theorem Co.beside{w w':World}{B:Nat}{v:Value}{cs:List Cel}(h:Co w B v cs){g B':Nat}{l:List UInt8}{err:Nat}(hr:Rd w g B' l err)(hg:w.grownBy w' (some g)):Co w' B v cs:=by
 obtain⟨_,hb⟩:=hr.blk;exact zDm h hb (by decide) hg
theorem z8b(l:List UInt8)(err m:Nat)(he:err<=1000):(z0k l err (m:Int)).1<=m/\(z0k l err (m:Int)).2.1.length<=l.length/\(z0k l err (m:Int)).2.2<=1000:=by
 unfold z0k
 split
 .exact⟨yU _,y5 _,he⟩
 .split
  .rename_i er hg;exact⟨yU _,y5 _,(z6N hg).1⟩
  .rename_i x n hg
   split
   .exact⟨yU _,y5 _,(show 32<=1000 by decide)⟩
   .rename_i hx;exact⟨by simp only;omega,by simp only [yI];omega,yU _⟩
theorem zFt(l:List UInt8)(err:Nat)(he:err<=1000):(z24 l err).2.1.length<=l.length/\(z24 l err).2.2<=1000:=by
 unfold z24
 split
 .exact⟨y5 _,he⟩
 .rcases l with _|⟨b,l⟩
  .exact⟨y5 _,(show 30<=1000 by decide)⟩
  .simp only
   split
   .exact⟨y5 _,(show 33<=1000 by decide)⟩
   .exact⟨by simp,yU _⟩
theorem zAc(l:List UInt8){e:Nat}(he:e<=1000):(z0S l e).1.length<=65536/\(z0S l e).2.1.length<=l.length/\(z0S l e).2.2<=1000:=by
 unfold z0S
 split
 .exact⟨by simp,y5 _,he⟩
 .split
  .rename_i er hg;exact⟨by simp,y5 _,(z6N hg).1⟩
  .rename_i x n hg
   split
   .exact⟨by simp,y5 _,(show 32<=1000 by decide)⟩
   .split
    .exact⟨by simp,y5 _,(show 30<=1000 by decide)⟩
    .exact⟨by simp only [yC];omega,by simp only [yI];omega,yU _⟩
theorem Sl.newcel{S:Nat->Prop}(w:World)(c:Cel){g:Nat}(hg:g=w.heap.size)(hS:S g):
 Sl S (w.alloc (.cells #[.string (st c.1),.string (st c.2)] 94)) 2 (.slice (some ⟨g,0,none⟩) 1 1) 1 (ccs [c]):=by
 subst hg;refine⟨by simp [ccs],_,1,rfl,by simp,by simp [maxLen],(fun h=>by cases h),fun _=>⟨_,0,rfl,hS,fun j v hu=> ?_⟩⟩;rw [ZC,Y4];simpa [ccs]using hu
theorem z81{P:Program}{w:World}{ops:Array Oper}{o:Oper}{a:Act}{K:Act->World->Prop}{Q:Exit->Act->World->Prop}{F:Prop}(w0:World)(hd:zJ9 w0 w)(hgd:o.guard=none)(s x:Operand){t e:TypeId}{z:Value}{size bytes:Nat}
 (E:Elem P t e z size bytes) (ho:o.op= .call {callee:= .builtin .append,args:= #[s,x],argTypes:= #[t,t]})
 {base:Nat} {v:Value} {n:Nat} {xs:List Value} (hown:w0.ownsRow base e size v n xs)
 {S:Nat->Prop} {u:Value} {m:Nat} {news:List Value} (hr:Sl S w0 size u m news) (hs:a.eval s=v) (hx:a.eval x=u) (h1:∀y∈news,y.oneCell'=true)
 (hlen:n+m<=maxLen) (hbytes:(n+m)*bytes<=140737488355328) (hbase:base<=w0.heap.size)
 (h:∀A k c w',w'.ownsRow base e size (.slice A k c) (n+m) (xs++news)->w0.grownBy w' v.ownBlock->K (a.put o.dst (.slice A k c)) w'):
 if Region.wanted o (yielded ops a.tmps)=true then Oper.wp P o a w K Q else F:=by
 have hw:Region.wanted o (yielded ops a.tmps)=true:=by simp [Region.wanted,hgd]
 rw [yB hw];obtain⟨d,rfl⟩:=hd;obtain⟨v',w',hrun,h2,h3,h4⟩:=z2W (P:=P) (w0.drewN d) E o.type hown (Sl.drewN hr d) h1 hlen hbytes hbase;obtain⟨A,k,c,rfl⟩:=z0v h2;unfold Oper.wp execOp;simp only [ho,resolve,invoke,builtin,ZV,ZW,Ym,QG,yy,Yx,hs,hx,hrun];exact h A k c w' h2 ⟨h3.os,h3.tape,h3.output,h3.size,h3.block⟩
theorem zAb{c i:Nat}(h:i<c)(s:List UInt8×Nat)(acc:List Cel):z2L (c-i) s acc=z2L (c-(i+1)) (z0S (z0S s.1 s.2).2.1 (z0S s.1 s.2).2.2).2 (acc++ [((z0S s.1 s.2).1,(z0S (z0S s.1 s.2).2.1 (z0S s.1 s.2).2.2).1)]):=by
 rw [show c-i=c-(i+1)+1 by omega,z2L]
theorem Rd.keptCo{w w':World}{g B B':Nat}{l:List UInt8}{err:Nat}(h:Rd w g B l err){size n:Nat}{v:Value}{xs:List Value}(ho:w.ownsRow B' 94 size v n xs)(hg:w.grownBy w' v.ownBlock):Rd w' g B l err:=by
 obtain⟨A,k,c,h1,h2⟩:=h;refine⟨A,k,c,h1.kept ho hg (by decide),h2.keep fun b hb=> ?_⟩;obtain⟨_,cs,fz,hh⟩:=hb;refine hg.block b (lt_of_block hh) fun e=> ?_
 rcases ho.2 with⟨rfl,_⟩|⟨g',cap,cur,rfl,_,hh',_⟩
 .cases e
 .simp only [Value.ownBlock,YH]at e;subst e;rw [hh]at hh';injection hh' with hh'
  injection hh' with _ he
  exact absurd he (by decide)
structure OfSt(w wr:World)(gp g B:Nat)(b:Bool)(n:Nat)(sl:Value)(cs:List Cel)(l:List UInt8)(er:Nat):Prop where
 page:Blk wr gp 175 #[.bool b,.int .i64 (n:Int),sl]
 own:Co wr w.heap.size sl cs
 rd:Rd wr g B l er
 below:Below w.heap.size w wr
 room:B<=wr.heap.size
 few:cs.length<=2048/\∀c∈cs,c.1.length<=65536/\c.2.length<=65536
 lens:l.length<=1099511627776/\er<=1000
theorem zHn(S:Nat->Prop)(v0:Value)(l:List UInt8)(w:World)(hl:l.length<=1099511627776)(hr:Bs S w v0 l):
 Calls prog 161 #[v0] w fun e w'=>(∀b n cs,z3O l=some (b,n,cs)->∃v,e= .returned (.tuple #[v,.int .i64 0])/\PgIs w.heap.size w' v b (n:Int) cs)/\
  (z3O l=none->e= .returned (.tuple #[.agg #[.bool false,.int .i64 0,.slice none 0 0],.int .i64 101]))/\Below w.heap.size w w':=by
 have HR:Hid (Bs (fun b=>b<w.heap.size) w v0 l):=(Sl.lt hr (by omega)).more (fun _ h=>h.2);have hb0:=Blk.new w 175 #[.bool false,.int .i64 0,.slice none 0 0];have q0:Below w.heap.size w (w.alloc (.cells #[.bool false,.int .i64 0,.slice none 0 0] 175)):=(y7 _ _).alloc (y5 _) _;have hr0:=zz (Sl.alloc HR.out (fun _ h=>h) (.cells #[.bool false,.int .i64 0,.slice none 0 0] 175));have HO0:Hid (z3O l=match z27 l with| .error _=>none| .ok f=>zKO f):=rfl;clear hr;go_enter func161,ntmps161
 go_wp2_with fail
 generalize hW:w.alloc (.cells #[.bool false,.int .i64 0,.slice none 0 0] 175)=W at*;clear hW;refine(z9L (fun b=>b<w.heap.size) v0 l W hl hr0.out).mono ?_;rintro e w1 ⟨hok,her,hbl1⟩;have HB0:=zz hb0;have hWs:=hb0.lt;have hb1:=hb0.later hbl1;have q1:=q0.trans (hbl1.mono q0.size);cases ho:z27 l with
 |error er=>
  obtain rfl:=her _ ho;have HN:Hid (z3O l=none):=by rw [Hid,HO0.out,ho]
  have t1:((er:Int) != 0)=true:=by
   rw [Yn];have:er=20∨er=21:=zDi ho;rcases this with rfl|rfl<;>decide
  have d0:w1.cell? ⟨w.heap.size,0,none⟩=some (.bool false):=hb1.cell 0;have d1:w1.cell? ⟨w.heap.size,1,none⟩=some (.int .i64 0):=hb1.cell 1;have d2:w1.cell? ⟨w.heap.size,2,none⟩=some (.slice none 0 0):=hb1.cell 2;have f0:=hb1.free 0;have f1:=hb1.free 1;have f2:=hb1.free 2;clear ho hok her HO0;go_wp2_with fail
  exact bodyPost_ret (z0L rfl _ _ w.heap.size rfl (hb1.put3 _ _ _) z1Q) rfl ⟨fun b n cs h=>(by rw [HN.out]at h;cases h),fun _=>rfl,z0Y q1 (y5 _) _ _ _⟩
 |ok f=>
  obtain⟨A1,k1,c1,rfl,hown1⟩:=hok _ ho;have hfl:f.length<=1099511627776:=zDj ho hl;have HO1:Hid (z3O l=zKO f):=by rw [Hid,HO0.out,ho]
  have HF:=zz hown1;have hmf:=z0N prog;clear ho hok her HO0 hown1;go_wp2_with fail
  refine(zCh _ _ f w1 hfl HF.out.bs).mono ?_;rintro e w2 ⟨g,rfl,hg2,hr2,hbl2⟩;have q2:Below W.heap.size W w2:=hbl1.trans (hbl2.mono hbl1.size);have HR2:=zz hr2;have hB1:=hbl1.size;have hB2:=hbl2.size;clear hr2 hbl2;go_wp2_with fail
  refine(zFw g w1.heap.size f 0 w2 HR2.out hB2 hfl).mono ?_;rintro e w3 ⟨rfl,hr3,hg3⟩;have hbd1:=zFt f 0 (yU _);obtain⟨X1,hX1⟩:∃X,z24 f 0=X:=⟨_,rfl⟩;rw [hX1]at hr3 hbd1;rw [hX1];have HX1:=zz hX1;obtain⟨b,s1,e1⟩:=X1;simp only at hr3 hbd1 ⊢;have q3:Below W.heap.size W w3:=q2.trans (z0T hg3 (by omega) q2.size);have hB3:=hg3.size;have HR3:=zz hr3;clear hr3 hg3 hX1;go_wp2_with fail
  refine(zA6 g w1.heap.size s1 e1 256 w3 HR3.out (by omega) (by omega) (by omega) (by omega)).mono ?_;rintro e w4 ⟨rfl,hr4,hg4⟩;have hbd2:=z8b s1 e1 256 hbd1.2;rw [show(((256:Nat)):Int)=256 from rfl]at hbd2;obtain⟨X2,hX2⟩:∃X,z0k s1 e1 256=X:=⟨_,rfl⟩;rw [hX2]at hr4 hbd2;rw [hX2];have HX2:=zz hX2;obtain⟨n,s2,e2⟩:=X2;simp only at hr4 hbd2 ⊢;have q4:Below W.heap.size W w4:=q3.trans (z0T hg4 (by omega) q3.size);have hB4:=hg4.size;have hgl4:g<w4.heap.size:=by obtain⟨_,h⟩:=hr4.blk;exact h.lt
  have hbp:=Blk.new w4 175 #[.bool b,.int .i64 (n:Int),.slice none 0 0];have hr5:=hr4.later ((y7 _ _).alloc (y5 _) (.cells #[.bool b,.int .i64 (n:Int),.slice none 0 0] 175));have q5:=q4.alloc q4.size (.cells #[.bool b,.int .i64 (n:Int),.slice none 0 0] 175);have HR5:=zz hr5;have hsz5:w1.heap.size<=(w4.alloc (.cells #[.bool b,.int .i64 (n:Int),.slice none 0 0] 175)).heap.size:=by simp;omega
  clear hr4 hr5 hg4 hX2 HR3;go_wp2_with fail
  refine(zA6 g w1.heap.size s2 e2 2048 _ HR5.out hsz5 (by omega) (by omega) (by omega)).mono ?_;rintro e w6 ⟨rfl,hr6,hg6⟩;have hbd3:=z8b s2 e2 2048 hbd2.2.2;rw [show(((2048:Nat)):Int)=2048 from rfl]at hbd3;obtain⟨X3,hX3⟩:∃X,z0k s2 e2 2048=X:=⟨_,rfl⟩;rw [hX3]at hr6 hbd3;rw [hX3];have HX3:=zz hX3;obtain⟨c,s3,e3⟩:=X3;simp only at hr6 hbd3 ⊢;have hgp:g≠w4.heap.size:=by omega
  have hbp6:=hbp.grown hg6 (by simpa using hgp);have q6:Below W.heap.size W w6:=q5.trans (z0T hg6 (by omega) q5.size);have R0:OfSt W w6 w4.heap.size g w1.heap.size b n (.slice none 0 0) [] s3 e3:=
   ⟨hbp6,Co.nil _ _,hr6,q6,yD hsz5 hg6.size,⟨yU _,fun c hc=>by cases hc⟩,by omega,hbd3.2.2⟩
  have HPG:Hid (z3O l=match z2L c (s3,e3) []with|(cs,s4,e4)=>if z2w s4 e4=0/\z1I (n:Int) cs=0 then some (b,n,cs)else none):=by
   rw [Hid,HO1.out];unfold zKO;rw [HX1.out];simp only;rw [HX2.out];simp only;rw [HX3.out]
  have hgp4:W.heap.size<=w4.heap.size:=q4.size;have hgW:W.heap.size<=g:=by omega
  have hc2048:=hbd3.1;have hn256:=hbd2.1;clear hr6 hg6 hX3 HR5 hbp hbp6 HX1 HX2 HX3 HO1 hbd1 hbd2 hbd3 q5;go_wp2_with fail
  go_loopw [28] (fun iv wr=>∃ (i:Nat) (sl:Value) (cs:List Cel) (lr:List UInt8) (er:Nat),iv= .int .i64 (i:Int)/\i<=c/\cs.length=i/\OfSt W wr w4.heap.size g w1.heap.size b n sl cs lr er/\Hid (z2L c (s3,e3) []=z2L (c-i) (lr,er) cs)) (fun iv _=>c-(intOf iv).toNat)
  case atStart=>exact⟨0,_,[],s3,e3,rfl,by omega,rfl,R0,rfl⟩
  case round=>
   obtain⟨i,sl,cs,lr,er,rfl,hi,hlen,hst,hrc⟩:=hrel;clear R0;by_cases hic:i<c
   .subst hlen;have hlo:=hst.lens;have hT1:=fun(w':World) (h1:Rd w' g w1.heap.size lr er) (h2:w1.heap.size<=w'.heap.size)=>z7W g w1.heap.size lr er w' h1 h2 hlo.1
    have hk1:=zAc lr hlo.2;have hst2:=hrc.out.trans (zAb hic (lr,er) cs);simp only at hst2;obtain⟨X1,hX1⟩:∃X,z0S lr er=X:=⟨_,rfl⟩;rw [hX1]at hT1 hk1 hst2;obtain⟨k,l1,er1⟩:=X1;simp only at hT1 hk1 hst2;have hT2:=fun(w':World) (h1:Rd w' g w1.heap.size l1 er1) (h2:w1.heap.size<=w'.heap.size)=>z7W g w1.heap.size l1 er1 w' h1 h2 (by omega)
    have hk2:=zAc l1 hk1.2.2;obtain⟨X2,hX2⟩:∃X,z0S l1 er1=X:=⟨_,rfl⟩;rw [hX2]at hT2 hk2 hst2;obtain⟨v,l2,er2⟩:=X2;simp only at hT2 hk2 hst2;have HT1:=zz hT1;have HT2:=zz hT2;have HRC:=zz hst2;have HST:=zz hst;obtain⟨A0,k0,c0,rfl⟩:=z0v hst.own;obtain rfl:=z0h hst.own;have HF:=zz hst.few;have HLB:Hid (w1.heap.size<=wr.heap.size):=hst.room;have p2:wr.cell? ⟨w4.heap.size,2,none⟩=some (.slice A0 cs.length c0):=hst.page.cell 2;have hgne:¬g=w4.heap.size:=hgp;have hgne2:(some g:Option Nat)≠some w4.heap.size:=by simpa using hgp
    clear hT1 hT2 hst2 hst hrc hX1 hX2;go_wp2_with fail
    go_region_law (first
     |(go_simp;go_at_call 94;refine(HT2.out _ (by exact hr1) (by exact hBa)).mono ?_;rintro e wb ⟨rfl,hr2,hg2⟩;have hg2':wa.grownBy wb (some g):=⟨hg2.os,hg2.tape,hg2.output,hg2.size,hg2.block⟩;have hpb:=hpa.grown hg2' hgne2;have pb2:wb.cell? ⟨w4.heap.size,2,none⟩=some (.slice A0 cs.length c0):=hpb.cell 2;have hpx:=hpb.alloc (.cells #[.string (st k),.string (st v)] 94);have px2:(wb.alloc (.cells #[.string (st k),.string (st v)] 94)).cell? ⟨w4.heap.size,2,none⟩=some (.slice A0 cs.length c0):=hpx.cell 2;have hob:=hoa.beside hr1 hg2')
     |(go_simp;go_at_call 94;refine(HT1.out _ (by exact HST.out.rd) (by exact HLB.out)).mono ?_;rintro e wa ⟨rfl,hr1,hg1⟩;have hg1':wr.grownBy wa (some g):=⟨hg1.os,hg1.tape,hg1.output,hg1.size,hg1.block⟩;have hpa:=HST.out.page.grown hg1' hgne2;have pa2:wa.cell? ⟨w4.heap.size,2,none⟩=some (.slice A0 cs.length c0):=hpa.cell 2;have hoa:=HST.out.own.beside HST.out.rd hg1';have hBa:w1.heap.size<=wa.heap.size:=yD HLB.out hg1'.size)
     |(refine z81 (wb.alloc (.cells #[.string (st k),.string (st v)] 94)) (by first|exact⟨0,rfl⟩|exact⟨1,rfl⟩|exact⟨2,rfl⟩|exact⟨3,rfl⟩|exact⟨4,rfl⟩) rfl (.tmp 31) (.tmp 37) elemCel rfl (YC hob _) (Sl.newcel (S:=fun _=>True) _ (k,v) rfl trivial) rfl rfl (z2b _) (by simp only [maxLen];omega) (by omega) ((yD HST.out.below.size (yD hg1'.size (yD hg2'.size (by simp))))) ?_;intro A5 k5 c5 w5 hown5 hg5;have hp5:=hpx.kept (YC hob _) hg5 (by decide);have p5:w5.cell? ⟨w4.heap.size,2,none⟩=some (.slice A0 cs.length c0):=hp5.cell 2;have f5:=hp5.free 2;have hr5:=(hr2.later ((y7 _ _).alloc (y5 _) (.cells #[.string (st k),.string (st v)] 94))).keptCo (YC hob _) hg5))
    all_goals
     go_wp2_with fail
     go_roundw
     case rel=>
      obtain rfl:k5=cs.length+1:=z0h hown5;have hown6:Co w5 W.heap.size (.slice A5 (cs.length+1) c5) (cs++ [(k,v)]):=by
       unfold Co;rw [z19,show(cs++ [(k,v)]).length=cs.length+1 by simp];exact hown5
      have hq5:Below W.heap.size W w5:=z01 ((((HST.out.below).trans (z0T hg1' hgW HST.out.below.size)).trans (z0T hg2' hgW (yD HST.out.below.size hg1'.size))).alloc (yD HST.out.below.size (yD hg1'.size hg2'.size)) (.cells #[.string (st k),.string (st v)] 94)) (YC hob _) hg5 (yD HST.out.below.size (yD hg1'.size (yD hg2'.size (by simp))));refine⟨cs.length+1,_,cs++ [(k,v)],l2,er2,by go_num,by omega,by simp,⟨hp5.put 2 _,z3g hown6 hp5 (by decide) 2 _,hr5.far hp5 (by decide) (by decide) 2 _,hq5.setCell hgp4 _,by have h1:=hg2'.size;have h2:=hg5.size;simp at h2 ⊢;omega,⟨by simp;omega,fun x hx=> ?_⟩,⟨by omega,hk2.2.2⟩⟩,HRC.out⟩;rcases yF.1 hx with h|h
      .exact HF.out.2 x h
      .simp at h;subst h;exact⟨hk1.1,hk2.1⟩
     case measure=>simp [intOf];omega
   .obtain rfl:i=c:=by omega
    have HE0:Hid (z3O l=if z2w lr er=0/\z1I (n:Int) cs=0 then some (b,n,cs)else none):=by
     have h:=hrc.out;rw [Zs,z2L]at h;rw [Hid,HPG.out,h]
    have HST:=zz hst;obtain⟨A0,k0,c0,rfl⟩:=z0v hst.own;obtain rfl:=z0h hst.own;have qr:=q0.trans (hst.below.mono q0.size);have hbr:=HB0.out.later hst.below;have g0:wr.cell? ⟨w4.heap.size,0,none⟩=some (.bool b):=hst.page.cell 0;have g1:wr.cell? ⟨w4.heap.size,1,none⟩=some (.int .i64 (n:Int)):=hst.page.cell 1;have g2:wr.cell? ⟨w4.heap.size,2,none⟩=some (.slice A0 cs.length c0):=hst.page.cell 2;have hlo:=hst.lens;clear hst hrc HPG hlen;go_wp2_with fail
    refine(zIl g w1.heap.size lr er wr HST.out.rd hlo.1).mono ?_;rintro e w7 ⟨rfl,rfl⟩;by_cases hE:z2w lr er=0
    .rw [hE];have HE:=zz hE;clear hE;go_wp2_with fail
     refine(z8W _ b (n:Int) _ cs wr (by omega) ⟨by have:=HST.out.few.1;omega,HST.out.few.2⟩ HST.out.own.cs).mono ?_;rintro e w8 ⟨rfl,hbl8⟩;have q8:=qr.trans (hbl8.mono qr.size);have hb8:=hbr.later hbl8;have r0:w8.cell? ⟨w.heap.size,0,none⟩=some (.bool false):=hb8.cell 0;have r1:w8.cell? ⟨w.heap.size,1,none⟩=some (.int .i64 0):=hb8.cell 1;have r2:w8.cell? ⟨w.heap.size,2,none⟩=some (.slice none 0 0):=hb8.cell 2;have rf0:=hb8.free 0;have rf1:=hb8.free 1;have rf2:=hb8.free 2;have h0:=yN hbl8 g0;have h1:=yN hbl8 g1;have h2:=yN hbl8 g2;by_cases hC:z1I (n:Int) cs=0
     .rw [hC];have HY:Hid (z3O l=some (b,n,cs)):=by rw [Hid,HE0.out,yB ⟨HE.out,hC⟩]
      clear hC HE0;go_wp2_with fail
      refine bodyPost_ret (z0L rfl _ _ w.heap.size rfl (hb8.put3 _ _ _) z1Q) rfl ⟨fun b' n' cs' h=> ?_,fun h=>(by rw [HY.out]at h;cases h),z0Y q8 (y5 _) _ _ _⟩;rw [HY.out]at h;injection h with h
      injection h with h1 h
      injection h with h2 h3
      subst h1 h2 h3;exact⟨_,rfl,A0,c0,rfl,Cs.put3 (L:=W.heap.size) (Sl.below HST.out.own.cs hbl8 (fun _ h=>h.2)) (fun x h=>⟨h.1,yE h.2 hbl8.size⟩) hWs q0.size _ _ _⟩
     .have HN:Hid (z3O l=none):=by rw [Hid,HE0.out,yA (fun h=>hC h.2)]
      have t1:((z1I (n:Int) cs:Int) != 0)=true:=by rw [Yn];omega
      generalize z1I (n:Int) cs=P at*;clear hC HE0;go_wp2_with fail
      exact bodyPost_ret (z0L rfl _ _ w.heap.size rfl (hb8.put3 _ _ _) z1Q) rfl ⟨fun b n cs h=>(by rw [HN.out]at h;cases h),fun _=>rfl,z0Y q8 (y5 _) _ _ _⟩
    .have HN:Hid (z3O l=none):=by rw [Hid,HE0.out,yA (fun h=>hE h.1)]
     have t1:((z2w lr er:Int) != 0)=true:=by rw [Yn];omega
     have r0:wr.cell? ⟨w.heap.size,0,none⟩=some (.bool false):=hbr.cell 0;have r1:wr.cell? ⟨w.heap.size,1,none⟩=some (.int .i64 0):=hbr.cell 1;have r2:wr.cell? ⟨w.heap.size,2,none⟩=some (.slice none 0 0):=hbr.cell 2;have rf0:=hbr.free 0;have rf1:=hbr.free 1;have rf2:=hbr.free 2;generalize z2w lr er=P at*;clear hE HE0;go_wp2_with fail
     exact bodyPost_ret (z0L rfl _ _ w.heap.size rfl (hbr.put3 _ _ _) z1Q) rfl ⟨fun b n cs h=>(by rw [HN.out]at h;cases h),fun _=>rfl,z0Y qr (y5 _) _ _ _⟩
theorem Sl.new2{S:Nat->Prop}(w:World)(e:TypeId)(u v:Value){g:Nat}(hg:g=w.heap.size)(hS:S g):Sl S (w.alloc (.cells #[u,v] e)) 1 (.slice (some ⟨g,0,none⟩) 2 2) 2 [u,v]:=by
 subst hg;refine⟨by simp,_,2,rfl,by simp,by simp [maxLen],(fun h=>by cases h),fun _=>⟨_,0,rfl,hS,fun j x hx=> ?_⟩⟩;rw [ZC,Y4];simpa using hx
def z3I(b:Bool):List UInt8:=if b then [1]else [0]
theorem zAw(g B:Nat)(l:List UInt8)(b:Bool)(w:World)(hw:Wr w g B l)(hB:B<=w.heap.size)(hgB:B<=g)(hl:l.length<=1000000000):
 Calls prog 65 #[.pointer (some ⟨g,0,none⟩),.bool b] w fun e w'=>e= .returned (.tuple #[])/\Wr w' g B (l++z3I b)/\w.grownBy w' (some g):=by
 have hgl:g<w.heap.size:=by obtain⟨A,k,c,h,_⟩:=hw;exact h.lt
 have HW:=zz hw;clear hw;cases b
 case' false=>
  have HF:Hid (z0C 0=z3I false):=by rw [Hid,z2q (by omega)];rfl
  have HC:=zz (z5R g B l [0] _ _ (HW.out.alloc (.cells #[.int .u64 0] 27)) (by simp;omega) hgB (by intro y hy;simp at hy;subst hy;unfold U64;omega) (by simp;omega) (Sl.new1 w _ _ rfl ⟨by omega,by simp⟩))
 case' true=>
  have HF:Hid (z0C 1=z3I true):=by rw [Hid,z2q (by omega)];rfl
  have HC:=zz (z5R g B l [1] _ _ (HW.out.alloc (.cells #[.int .u64 1] 27)) (by simp;omega) hgB (by intro y hy;simp at hy;subst hy;unfold U64;omega) (by simp;omega) (Sl.new1 w _ _ rfl ⟨by omega,by simp⟩))
 all_goals
  go_enter func65,ntmps65
  go_wp2_with fail
  refine HC.out.mono ?_;rintro e w1 ⟨rfl,hw1,hg1⟩;simp only [yb,YZ,yf]at hw1;rw [HF.out]at hw1;go_wp2_with fail
  go_end0
  exact⟨rfl,hw1,(z0Q ((y7 _ _).alloc (y5 _) _) _).trans hg1⟩
def zDA(leaf:Bool)(next:Int)(cs:List Cel)(w:World)(e:Ending)(w':World):Prop:=
 (z1I next cs=0->∃A k c,e= .returned (.tuple #[.slice A k c,.int .i64 0])/\Ob 5 w' w.heap.size (.slice A k c) (z7Y (pgF leaf next cs)))/\
 (z1I next cs≠0->e= .returned (.tuple #[.slice none 0 0,.int .i64 (z1I next cs:Int)]))/\Below w.heap.size w w'
theorem z6K{next:Int}{cs:List Cel}(h:z1I next cs=0):0<=next/\next<=256/\z2v next cs<=2048:=by
 unfold z1I at h
 split at h
 .cases h
 .rename_i h1
  split at h
  .rename_i h2;exact absurd h h2
  .split at h
   .cases h
   .rename_i h3;omega
theorem z7I(S:Nat->Prop)(leaf:Bool)(next:Int)(v0:Value)(cs:List Cel)(w:World)(hbit:BitsOk w)(hn: -9223372036854775808<=next/\next<=9223372036854775807)(hm:Mid cs)(hr:Cs S w v0 cs):
 Calls prog 141 #[.agg #[.bool leaf,.int .i64 next,v0]] w (zDA leaf next cs w):=by
 have HR:=zz hr.lt;have hlt:=hr.lt;obtain⟨A,c,rfl,hlc,hcm,hA0,hA⟩:=hlt.at;have HA:=zz hA;have hb:=Blk.new w 175 #[.bool leaf,.int .i64 next,.slice A cs.length c];have q1:Below w.heap.size w (w.alloc (.cells #[.bool leaf,.int .i64 next,.slice A cs.length c] 175)):=(y7 _ _).alloc (y5 _) _;have HRW:=zz (HR.out.up q1);have HBT:=zz hbit;clear hA hr hlt hbit;go_enter func141,ntmps141
 go_wp2_with fail
 generalize hW:w.alloc (.cells #[.bool leaf,.int .i64 next,.slice A cs.length c] 175)=W at*;have hWs:w.heap.size<W.heap.size:=hb.lt;clear hW;have HB:=zz hb;refine(z8W _ leaf next _ cs W hn hm HRW.out).mono ?_;rintro e w1 ⟨rfl,hbl1⟩;have qa1:=q1.trans (hbl1.mono q1.size);by_cases hok:z1I next cs=0
 .obtain⟨h0,h256,hsz⟩:=z6K hok;have HOK:=zz hok;rw [hok];obtain⟨nn,rfl⟩:∃nn:Nat,next=(nn:Int):=⟨next.toNat,by omega⟩;have hFL:=zFf leaf (nn:Int) cs;have HFL:Hid ((pgF leaf (nn:Int) cs).length<=2048):=by rw [Hid];omega
  have HPF:Hid (pgF leaf (nn:Int) cs=z3I leaf++(z0C nn++(z0C cs.length++cs.flatMap z3B))):=rfl;have HX:=zz hm.2;have hml:=hm.1;have hb1:=HB.out.later hbl1;have hpre:∀i,z07 (cs.take i)<=2048:=fun i=>by have:=zCD (cs:=cs) (i:=i);unfold z2v at hsz;omega
  have HPRE:=zz hpre;have hw1':IntKind.u64.wrap (nn:Int)=(nn:Int):=z1a (by omega) (by unfold U64;omega);have hw2':IntKind.u64.wrap (cs.length:Int)=(cs.length:Int):=z1a (by omega) (by unfold U64;omega);clear hok hFL hsz hpre hn;go_wp2_with fail
  refine(z5U w1).mono ?_;rintro e w2 ⟨rfl,hw2,hbl2,hs2⟩;have r2:Below W.heap.size W w2:=hbl1.trans (hbl2.mono hbl1.size);have hgW:=hbl1.size;generalize hG:w1.heap.size=G at*;clear hG;have hb2:=HB.out.later r2;have e0:w2.cell? ⟨w.heap.size,0,none⟩=some (.bool leaf):=hb2.cell 0;have HW2:=zz hw2;have hG2:G<w2.heap.size:=by omega
  clear hbl1 hbl2 hb1 hw2;go_wp2_with fail
  refine(zAw G G [] leaf w2 HW2.out (by omega) (y5 _) (by simp)).mono ?_;rintro e w3 ⟨rfl,hw3,hg3⟩;rw [yz]at hw3;have r3:Below W.heap.size W w3:=r2.trans (z0T hg3 (by omega) r2.size);have hb3:=HB.out.later r3;have e1:w3.cell? ⟨w.heap.size,1,none⟩=some (.int .i64 (nn:Int)):=hb3.cell 1;have e2:w3.cell? ⟨w.heap.size,2,none⟩=some (.slice A cs.length c):=hb3.cell 2;have hG3:G<w3.heap.size:=yE hG2 hg3.size;have HW3:=zz hw3;have hfl:(z3I leaf).length=1:=by cases leaf<;>rfl
  have hv1:=z09 (show nn<U64 by unfold U64;omega);have hv2:=z09 (show cs.length<U64 by unfold U64;omega);have hslx:Sl (fun b=>b≠G/\b<(w3.alloc (.cells #[.int .u64 (nn:Int),.int .u64 (cs.length:Int)] 27)).heap.size) (w3.alloc (.cells #[.int .u64 (nn:Int),.int .u64 (cs.length:Int)] 27)) 1 (.slice (some ⟨w3.heap.size,0,none⟩) 2 2) [nn,cs.length].length (zIt [nn,cs.length]):=Sl.new2 w3 _ _ _ rfl ⟨by omega,by simp⟩;have HSLX:=zz hslx;clear hg3 hw3 hslx HW2;go_wp2_with fail
  refine(z5R G G (z3I leaf) [nn,cs.length] _ _ (HW3.out.alloc _) (by simp;omega) (y5 _) (by intro y hy;simp at hy;rcases hy with rfl|rfl<;>(unfold U64;omega)) (by simp;omega) HSLX.out).mono ?_;rintro e w4 ⟨rfl,hw4,hg4⟩;simp only [yb,YZ,yf]at hw4;have r4:Below W.heap.size W w4:=(r3.alloc r3.size _).trans (z0T hg4 (by omega) (by have:=r3.size;simp;omega));have hb4:=HB.out.later r4;have e2':w4.cell? ⟨w.heap.size,2,none⟩=some (.slice A cs.length c):=hb4.cell 2;have hG4:G<w4.heap.size:=by have:=hg4.size;simp at this;omega
  have R0:Wr w4 G G (z3I leaf++(z0C nn++z0C cs.length)++(cs.take 0).flatMap z3B)/\Below W.heap.size W w4/\G<w4.heap.size:=⟨by simpa using hw4,r4,hG4⟩;clear hg4 hw4 HSLX HW3;go_wp2_with fail
  go_loopw [33] (fun iv wr=>∃i:Nat,iv= .int .i64 (i:Int)/\i<=cs.length/\Wr wr G G (z3I leaf++(z0C nn++z0C cs.length)++(cs.take i).flatMap z3B)/\Below W.heap.size W wr/\G<wr.heap.size) (fun iv _=>cs.length-(intOf iv).toNat)
  case atStart=>exact⟨0,rfl,by omega,R0⟩
  case round=>
   obtain⟨i,rfl,hi,hwr,hbl,hGr⟩:=hrel;clear R0;have hsz:=hbl.size;have qr:=q1.trans (hbl.mono q1.size);by_cases hil:i<cs.length
   .obtain⟨b,o,rfl,hbs,hc⟩:=HA.out (by omega);have c0:wr.cell? ⟨b,o+i*2,none⟩=some (.string (st cs[i].1)):=(qr.cell (p:=⟨b,o+i*2,none⟩) hbs).trans (hc i hil).1;have c1:wr.cell? ⟨b,o+i*2+1,none⟩=some (.string (st cs[i].2)):=(qr.cell (p:=⟨b,o+i*2+1,none⟩) hbs).trans (hc i hil).2;have hx:=HX.out _ (yQ hil);have HS:Hid ((cs.take (i+1)).flatMap z3B=(cs.take i).flatMap z3B++z3B cs[i]):=by
     rw [Hid,yO hil,Yq];simp
    have HLP:Hid (((cs.take i).flatMap z3B).length<=2048):=HPRE.out i;obtain⟨x,hx0⟩:∃x,cs[i]=x:=⟨_,rfl⟩;rw [hx0]at c0 c1 hx HS;clear hx0 hc;obtain⟨k,v⟩:=x;simp only at c0 c1 hx;have hr5:=hbl.alloc hsz (.cells #[.string (st k),.string (st v)] 94);have hr6:=hr5.alloc hr5.size (.cells #[.string (st k),.string (st v)] 9);have HWR:=zz ((hwr.alloc (.cells #[.string (st k),.string (st v)] 94)).alloc (.cells #[.string (st k),.string (st v)] 9));have hn4:=Blk.new wr 94 #[.string (st k),.string (st v)];have hslx:Sl (fun b=>b≠G/\b<((wr.alloc (.cells #[.string (st k),.string (st v)] 94)).alloc (.cells #[.string (st k),.string (st v)] 9)).heap.size) ((wr.alloc (.cells #[.string (st k),.string (st v)] 94)).alloc (.cells #[.string (st k),.string (st v)] 9)) 1 (.slice (some ⟨wr.heap.size+1,0,none⟩) 2 2) [k,v].length (zKR [k,v]):=Sl.new2 _ _ _ _ (by simp) ⟨by omega,by simp⟩;have HSLX:=zz hslx;clear hslx hwr;go_wp2_with fail
    refine(z5V G G _ [k,v] _ _ HWR.out (by simp;omega) (y5 _) (by intro y hy;simp at hy;rcases hy with rfl|rfl<;>omega) (by have:=HLP.out;simp only [y6,y8,yW];omega) HSLX.out).mono ?_;rintro e w5 ⟨rfl,hw5,hg5⟩;simp only [yb,YZ,yf]at hw5;have r5:Below W.heap.size W w5:=hr6.trans (z0T hg5 (by omega) (by simp;omega));have hG5:G<w5.heap.size:=by have:=hg5.size;simp at this;omega
    have HE5:Hid (z3B (k,v)=z0y k++z0y v):=rfl;clear hg5;go_wp2_with fail
    go_roundw
    case rel=>exact⟨i+1,by go_num,by omega,by rw [HS.out,HE5.out,<-yM];exact hw5,r5,hG5⟩
    case measure=>simp [intOf];omega
   .obtain rfl:i=cs.length:=by omega
    rw [YG]at hwr;have hwf:Wr wr G G (pgF leaf (nn:Int) cs):=by rw [HPF.out];simpa using hwr
    have HWF:=zz hwf;have HBR:=zz (HBT.out.later qr);clear hwr hwf;go_wp2_with fail
    refine(z4W G G (pgF leaf (nn:Int) cs) wr HWF.out (by have:=HFL.out;omega)).mono ?_;rintro e w5 ⟨A5,k5,c5,rfl,hown5,hbl5⟩;have q5:=qr.trans (hbl5.mono qr.size);have HB5:=zz (HBT.out.later q5);have HO5:=zz hown5;clear hown5 hbl5;go_wp2_with fail
    refine(zCp _ _ (pgF leaf (nn:Int) cs) w5 HB5.out (by have:=HFL.out;omega) HO5.out.bs).mono ?_;rintro e w6 ⟨A6,k6,c6,rfl,hown6,hbl6⟩;go_wp2_with fail
    go_ret2
    exact⟨fun _=>⟨A6,k6,c6,rfl,hown6.lower q5.size⟩,fun h=>absurd HOK.out h,q5.trans (hbl6.mono q5.size)⟩
 .have HOK:=zz hok;have t1:((z1I next cs:Int) != 0)=true:=by rw [Yn];omega
  obtain⟨P,hP⟩:∃P,z1I next cs=P:=⟨_,rfl⟩;have HP:=zz hP;rw [hP]at t1 ⊢;clear hok hP;go_wp2_with fail
  go_ret2
  exact⟨fun h=>absurd h HOK.out,fun _=>by rw [HP.out];rfl,qa1⟩
theorem zDw(b:Bool)(s:List UInt8):z24 (z3I b++s) 0=(b,s,0):=by
 unfold z24 z3I;rw [yA (by simp)];cases b<;>rfl
theorem z7P{x:Nat}(hx:x<U64){m:Nat}(hm:x<=m)(s:List UInt8):z0k (z0C x++s) 0 (m:Int)=(x,s,0):=by
 unfold z0k;rw [yA (by simp),z42 hx];simp only [QT];rw [yA (by omega)]
theorem z7O:∀ (cs:List Cel) (s:List UInt8) (acc:List Cel),(∀c∈cs,c.1.length<=65536/\c.2.length<=65536)->z2L cs.length (cs.flatMap z3B++s,0) acc=(acc++cs,(s,0))
 | [],s,acc,_=>by simp [z2L]
 |c::cs,s,acc,h=>by
  have hc:=h c (by simp);have e:(c::cs).flatMap z3B++s=z0C c.1.length++(c.1++(z0C c.2.length++(c.2++(cs.flatMap z3B++s)))):=by
   simp [z3B,z0y]
  rw [y8,z2L,e];simp only;rw [z8c hc.1];simp only;rw [z8c hc.2];simp only;rw [z7O cs s _ (fun x hx=>h x (by simp [hx]))];simp
theorem zBS(f:List UInt8):z27 (z7Y f)= .ok f:=by
 have e:(z7Y f).take ((z7Y f).length-4)=f:=by
  rw [z7Z,YS];unfold z7Y;rw [List.take_left]
 unfold z27;rw [yA (by rw [z7Z];omega),e];exact yB rfl
theorem z11:∀ (p:Option (List UInt8)) (cs:List Cel),chk p cs=0->∀c∈cs,c.1.length+c.2.length<=480
 |p,[],_,c,hc=>by cases hc
 |p,x::xs,h,c,hc=>by
  rw [chk]at h
  split at h
  .cases h
  .split at h
   .cases h
   .rcases y9.1 hc with rfl|hc
    .omega
    .exact z11 _ xs h c hc
theorem z4s{n:Int}{cs:List Cel}(h:z1I n cs=0):chk none cs=0:=by
 unfold z1I at h
 split at h
 .cases h
 .split at h
  .rename_i h2;exact absurd h h2
  .rename_i h2;simpa using h2
theorem zBV{b:Bool}{n:Nat}{cs:List Cel}(h:z1I (n:Int) cs=0):z3O (z7Y (pgF b (n:Int) cs))=some (b,n,cs):=by
 have hsm:=z11 none cs (z4s h);obtain⟨_,h256,hsz⟩:=z6K h;have hn:n<=256:=by omega
 have hlen:cs.length<=2048:=by
  have h2:cs.length<=z07 cs:=by
   clear h hsz hsm
   induction cs with
   |nil=>simp [z07]
   |cons c cs ih=>
    have e:z07 (c::cs)=(z3B c).length+z07 cs:=by simp [z07]
    have h1:1<=(z3B c).length:=by
     unfold z3B z0y;have:=z1u c.1.length;simp only [y6];omega
    rw [e,y8];omega
  unfold z2v at hsz;omega
 unfold z3O;rw [zBS];simp only;unfold zKO;have e:pgF b (n:Int) cs=z3I b++(z0C n++(z0C cs.length++(cs.flatMap z3B++ []))):=by
  unfold pgF z3I;rw [yf];rfl
 rw [e,zDw];simp only;rw [show(256:Int)=((256:Nat):Int)from rfl,z7P (by unfold U64;omega) hn];simp only;rw [show(2048:Int)=((2048:Nat):Int)from rfl,z7P (by unfold U64;omega) hlen];simp only;rw [z7O cs [] [] (fun c hc=>by have:=hsm c hc;omega)];simp only [yz];rw [yB ⟨by simp [z2w],h⟩]
theorem z8w:∀ (p:Option (List UInt8)) (cs:List Cel) (k:Nat),chk p cs=0->chk p (cs.take k)=0
 |p,cs,0,_=>by simp [chk]
 |p,[],k+1,_=>by simp [chk]
 |p,c::cs,k+1,h=>by
  rw [chk]at h;rw [Zx,chk]
  split at h
  .cases h
  .rename_i h1;rw [yA h1]
   split at h
   .cases h
   .rename_i h2;rw [yA h2];exact z8w _ cs k h
theorem zHL{p:Option (List UInt8)}:∀ {cs:List Cel},chk p cs=0->chk none cs=0
 | [],_=>by simp [chk]
 |c::cs,h=>by
  rw [chk]at h ⊢
  split at h
  .cases h
  .rename_i h1;rw [yA h1,yA (by simp [zB1])]
   split at h
   .cases h
   .exact h
theorem z6l:∀ (p:Option (List UInt8)) (cs:List Cel) (k:Nat),chk p cs=0->chk none (cs.drop k)=0
 |p,cs,0,h=>by rw [QZ];exact zHL h
 |p,[],k+1,_=>by simp [chk]
 |p,c::cs,k+1,h=>by
  rw [chk]at h;rw [Yr]
  split at h
  .cases h
  .split at h
   .cases h
   .exact z6l _ cs k h
theorem z9z:∀ (p:Option (List UInt8)) (cs:List Cel),chk p cs=0->RisesP cs
 |p,[],_=>by intro i hi;simp at hi
 |p,c::cs,h=>by
  rw [chk]at h
  split at h
  .cases h
  .split at h
   .cases h
   .intro i hi;rcases i with _|i
    .rcases cs with _|⟨d,ds⟩
     .simp at hi
     .rw [chk]at h
      split at h
      .cases h
      .split at h
       .cases h
       .rename_i h2;simpa [zB1]using h2
    .have ih:=z9z _ cs h i (by simpa using hi);simpa using ih
theorem z2B{x:Nat}(h:x<16384):(z0C x).length<=2:=z5p 1 x h
theorem z2Y{c:Cel}(h:c.1.length+c.2.length<=480):(z3B c).length<=484:=by
 unfold z3B z0y;have h1:=z2B (x:=c.1.length) (by omega);have h2:=z2B (x:=c.2.length) (by omega);simp only [y6];omega
theorem z6T{x:Nat}(h:x<128):(z0C x).length=1:=by rw [z2q h];rfl
theorem z5K{next:Int}{cs:List Cel}(hn:next<=256)(hf:cs.length<=100):z2v next cs<=z07 cs+8/\z07 cs+7<=z2v next cs:=by
 unfold z2v;have h1:=z2B (x:=next.toNat) (by omega);have h2:=z1u next.toNat;have h3:=z6T (x:=cs.length) (by omega);omega
theorem z9M{next:Int}{cs:List Cel}(h0:0<=next)(h1:next<=256)(hc:chk none cs=0)(hs:z2v next cs<=2048):z1I next cs=0:=by
 unfold z1I;rw [yA (by omega),hc,yA (by simp),yA (by omega)]
theorem halves{next:Int}{cs:List Cel}{k:Nat}(hf:cs.length<=100)(hc:z1I next cs=0)(hk:HalfAt cs k):
 z1I next (cs.take k)=0/\z1I next (cs.drop k)=0/\z2v next (cs.take k)+490<=2048/\z2v next (cs.drop k)+490<=2048:=by
 obtain⟨h0,h1,hs⟩:=z6K hc;have hch:=z4s hc;have hsm:=z11 none cs hch;have z0:=z5K (next:=next) (cs:=cs) h1 hf;have za:=z5K (next:=next) (cs:=cs.take k) h1 (by rw [yC];omega);have zb:=z5K (next:=next) (cs:=cs.drop k) h1 (by rw [yI];omega);have hsum:z07 cs=z07 (cs.take k)+z07 (cs.drop k):=by rw [<-z0W,yT]
 have hlo:=hk.lo;have hhi:=hk.hi;obtain⟨j,rfl⟩:∃j,k=j+1:=⟨k-1,by omega⟩;have hj:j<cs.length:=by omega
 have hstep:=z2c (cs:=cs) hj;have hcj:=z2Y (hsm _ (yQ hj));have ha:z07 (cs.take (j+1))<=1504:=by
  rcases Y3 j with h|h
  .subst h;rw [hstep];have:z07 (cs.take 0)=0:=rfl;omega
  .have:=hk.less j h (by omega);omega
 have hb:z07 (cs.drop (j+1))<=1021:=by
  rcases hk.stop with h|h
  .have e:cs.drop (j+1)= [cs[j+1]'(by omega)]∨cs.drop (j+1)= []:=by
    rcases Y5 (j+1) cs.length with h2|h2
    .left;rw [yL h2,YW (by omega)]
    .right;exact YW (by omega)
   rcases e with e|e
   .rw [e,z56];have:=z2Y (hsm _ (yQ (show j+1<cs.length by omega)));omega
   .rw [e];simp [z07]
  .omega
 exact⟨z9M h0 h1 (z8w _ _ _ hch) (by omega),z9M h0 h1 (z6l _ _ _ hch) (by omega),by omega,by omega⟩
end
section
open Go Tryz
def Lt(a b:List UInt8):Prop:=z1P a b<0
theorem Lt.trans{a b c:List UInt8}(h:Lt a b)(h':Lt b c):Lt a c:=z4I a b c h h'
theorem Lt.irrefl{a:List UInt8}(h:Lt a a):False:=by unfold Lt at h;rw [z6n]at h;omega
theorem z0K{a b:List UInt8}:Op.bytesLess a b=true↔Lt a b:=by rw [z1B,yd];rfl
theorem z30{a b:List UInt8}:Op.bytesLess a b=false↔¬Lt a b:=by rw [z1B,yj];rfl
theorem z76{a b:List UInt8}:Lt a b∨a=b∨Lt b a:=by
 have h1:=zCH a b;have h2:=zA0 a b;rcases h1 with h|h|h
 .exact .inl (by unfold Lt;omega)
 .exact .inr (.inl (zEf _ _ h))
 .exact .inr (.inr (by unfold Lt;omega))
theorem Lt.not{a b:List UInt8}(h:Lt a b):¬Lt b a:=fun h'=>(h.trans h').irrefl
theorem Lt.ne{a b:List UInt8}(h:Lt a b):a≠b:=fun e=>by subst e;exact h.irrefl
def Asc(cs:List Cel):Prop:=cs.Pairwise fun a b=>Lt a.1 b.1
theorem RisesP.asc{cs:List Cel}(h:RisesP cs):Asc cs:=by
 unfold Asc;rw [ZF];intro i j hi hj hij;exact zAf h hij hj
theorem Asc.rises{cs:List Cel}(h:Asc cs):RisesP cs:=fun i hi=>by
 unfold Asc at h;rw [ZF]at h;exact z0K.2 (h i (i+1) (by omega) hi (by omega))
theorem z6u:∀ {l m:List Cel} {k:List UInt8},(∀c∈l,Lt c.1 k)->(∀c∈m,¬Lt c.1 k)->z05 (l++m) k=l.length
 | [],[],k,_,_=>rfl
 | [],c::m,k,_,hm=>by
   unfold z05;rw [yz,Y0,yA (by rw [z0K];exact hm c (by simp))]
 |a::l,m,k,hl,hm=>by
  have ih:=z6u (l:=l) (m:=m) (k:=k) (fun c hc=>hl c (by simp [hc])) hm;unfold z05 at ih ⊢;rw [Y8,Y0,yB (z0K.2 (hl a (by simp))),y8,ih,y8]
section
variable {cs:List Cel} {k:List UInt8}
theorem z5l{c:Cel}(h:c∈cs.take (z05 cs k)):Lt c.1 k:=by
 obtain⟨i,hi,rfl⟩:=Zo.1 h;rw [yC]at hi;rw [Qb];exact z0K.1 (z98 (by omega))
theorem zBE(ha:Asc cs){c:Cel}(h:c∈cs.drop (z05 cs k)):¬Lt c.1 k:=by
 obtain⟨i,hi,rfl⟩:=Zo.1 h;rw [yI]at hi;rw [Q5];have:=zAB ha.rises k (i:=z05 cs k+i) (by omega);rw [yq (by omega)]at this;rw [<-z30];simpa using this
theorem zFD(h:isK cs k=true):∃v,cs[z05 cs k]? =some (k,v):=by
 unfold isK at h;cases hx:cs[z05 cs k]? with
 |none=>rw [hx]at h;cases h
 |some x=>
  rw [hx]at h;exact⟨x.2,by rw [<-eq_of_beq h]⟩
theorem zFE(h:isK cs k=false){x:Cel}(hx:cs[z05 cs k]? =some x):x.1≠k:=by
 unfold isK at h;rw [hx]at h;intro e;simp [e]at h
theorem z8N(h:isK cs k=true):z05 cs k<cs.length:=by
 obtain⟨v,hv⟩:=zFD h;exact(yg.1 hv).1
theorem zEw(h:isK cs k=true):∃v,cs.drop (z05 cs k)=(k,v)::cs.drop (z05 cs k+1):=by
 obtain⟨v,hv⟩:=zFD h;obtain⟨h1,h2⟩:=yg.1 hv;exact⟨v,by rw [yL h1,h2]⟩
def z4g(cs:List Cel)(k:List UInt8):Nat:=if isK cs k then 1 else 0
theorem z95(ha:Asc cs){c:Cel}(h:c∈cs.drop (z05 cs k+z4g cs k)):Lt k c.1:=by
 unfold z4g at h;cases hi:isK cs k with
 |true=>
  rw [hi,yB rfl]at h;obtain⟨v,hv⟩:=zEw hi;have h2:Asc (cs.drop (z05 cs k)):=Qa ha;rw [hv]at h2;exact(yh.1 h2).1 c h
 |false=>
  rw [hi]at h;simp only [yu,yv,YQ]at h;rcases z76 (a:=k) (b:=c.1)with h1|h1|h1
  .exact h1
  .exfalso;obtain⟨i,hi2,hc⟩:=Zo.1 h;rw [yI]at hi2;rw [Q5]at hc;rcases Y3 i with h0|h0
   .subst h0;exact zFE hi (x:=c) (by rw [<-hc];exact yK _) h1.symm
   .have h4:Lt cs[z05 cs k].1 cs[z05 cs k+i].1:=by
     unfold Asc at ha;rw [ZF]at ha;exact ha _ _ (by omega) (by omega) (by omega)
    rw [hc,<-h1]at h4;refine zBE (k:=k) ha (c:=cs[z05 cs k]'(by omega)) ?_ h4;rw [Zo];exact⟨0,by rw [yI];omega,by rw [Q5];rfl⟩
  .exact absurd h1 (zBE ha (yo (i:=0) (by simpa using h)))
end
def putC(cs:List Cel)(c:Cel):List Cel:=cs.take (z05 cs c.1)++c::cs.drop (z05 cs c.1+z4g cs c.1)
def delC(cs:List Cel)(k:List UInt8):List Cel:=cs.take (z05 cs k)++cs.drop (z05 cs k+z4g cs k)
section
variable {cs:List Cel} {k:List UInt8} {c:Cel}
theorem z9A(cs:List Cel)(k:List UInt8):z05 cs k+z4g cs k<=cs.length:=by
 unfold z4g;have h1:=z1o cs k;cases h:isK cs k with
 |true=>have:=z8N h;simp;omega
 |false=>simp;omega
theorem z3h(cs:List Cel)(c:Cel):(putC cs c).length+z4g cs c.1=cs.length+1:=by
 have:=z9A cs c.1;unfold putC;rw [y6,y8,yC,yI];omega
theorem z94(cs:List Cel)(k:List UInt8):(delC cs k).length+z4g cs k=cs.length:=by
 have:=z9A cs k;unfold delC;rw [y6,yC,yI];omega
theorem Asc.putC(ha:Asc cs)(c:Cel):Asc (putC cs c):=by
 unfold Proofs.YthnlcbamjehpdaaGreatDoor.putC;refine YL.2 ⟨List.Pairwise.take ha,yh.2 ⟨fun x hx=>z95 ha hx,Qa ha⟩,fun x hx y hy=> ?_⟩;rcases y9.1 hy with rfl|hy
 .exact z5l hx
 .exact(z5l hx).trans (z95 ha hy)
theorem Asc.delC(ha:Asc cs)(k:List UInt8):Asc (delC cs k):=by
 unfold Proofs.YthnlcbamjehpdaaGreatDoor.delC;exact YL.2 ⟨List.Pairwise.take ha,Qa ha,fun x hx y hy=>(z5l hx).trans (z95 ha hy)⟩
theorem zJK(h:isK cs k=false):delC cs k=cs:=by
 unfold delC z4g;rw [h];simp only [yu,yv,YQ];exact yT _ _
end
theorem zHu{cs:List Cel}{c:Cel}(h:isK cs c.1=true):putC cs c=cs.set (z05 cs c.1) c:=by
 rw [List.set_eq_take_append_cons_drop,yB (z8N h)];unfold putC z4g;rw [h];rfl
theorem zFp{cs:List Cel}{c:Cel}(h:isK cs c.1=false):putC cs c=cs.take (z05 cs c.1)++c::cs.drop (z05 cs c.1):=by
 unfold putC z4g;rw [h];rfl
theorem zCM{cs:List Cel}{k:List UInt8}(h:isK cs k=true):delC cs k=cs.take (z05 cs k)++cs.drop (z05 cs k+1):=by
 unfold delC z4g;rw [h];rfl
end
section
open Go Go.RowKit Go.WideShapes Tryz
open Go.Maps (Keyed)
set_option linter.unusedSectionVars false
def z6z(v:Value):Option (DataW Value×List MemPlace):=some (.held v,[])
def InI(a:Int):Prop:= -9223372036854775808<=a/\a<=9223372036854775807
theorem InI.wf{a:Int}(h:InI a):(Lit.int .i64 a).wf=true:=by
 unfold InI at h;simp only [Lit.wf,Y9,yd];exact h
theorem InI.of{a:Int}(h:(Lit.int .i64 a).wf=true):InI a:=by
 simp only [Lit.wf,Y9,yd]at h;exact h
def nPut(f:Int->Option Value)(n:Nat)(a:Int):Nat:=if(f a).isSome then n else n+1
def nDel(f:Int->Option Value)(n:Nat)(a:Int):Nat:=if(f a).isSome then n-1 else n
section
variable {P:Program} {k:TypeId} {w w':World} {b n:Nat} {f:Int->Option Value}
def MpV(P:Program)(k:TypeId)(w:World)(b:Nat)(f:Int->Option Value)(n:Nat):Prop:=
 ∃D:DataW Value,w.ownsMap P k z6z b n D/\Maps.size D=n/\∀a,InI a->Maps.has D (.int .i64 a)=(f a).isSome/\∀v,f a=some v->∀z,D.atKey (.int .i64 a) z= .held v
theorem zAW{m:Nat}{D:DataW Value}(h:w.ownsMap P k z6z b m D):w.ownsMap P k z6z b (Maps.size D) D:=by
 obtain⟨es,clock,hb,F,hs,hD⟩:=h;have e1:Maps.size D=es.size:=by rw [hD];simp [Maps.size,length_sorted]
 exact⟨es,clock,hb,F,by rw [e1];exact y5 _,hD⟩
theorem MpV.lt(h:MpV P k w b f n):b<w.heap.size:=by obtain⟨D,h1,_⟩:=h;exact h1.lt
theorem MpV.isMap(h:MpV P k w b f n):∃es clock,w.heap[b]? =some (.map es clock):=by
 obtain⟨D,⟨es,clock,hb,_⟩,_⟩:=h;exact⟨es,clock,hb⟩
theorem MpV.at(h:MpV P k w b f n)(hb:w'.heap[b]? =w.heap[b]?):MpV P k w' b f n:=by
 obtain⟨D,⟨es,clock,hb0,F,hs,hD⟩,h2,h3⟩:=h;exact⟨D,⟨es,clock,hb.trans hb0,F,hs,hD⟩,h2,h3⟩
theorem MpV.later(h:MpV P k w b f n)(hb:Below w.heap.size w w'):MpV P k w' b f n:=h.at (hb.block b h.lt)
theorem MpV.alloc(h:MpV P k w b f n)(o:Obj):MpV P k (w.alloc o) b f n:=h.at (QH w o b h.lt)
theorem MpV.made(P:Program)(k:TypeId)(w:World):MpV P k (w.alloc (.map #[] 0)) w.heap.size (fun _=>none) 0:=
 ⟨.map [],World.ownsMap_made w P k z6z,rfl,fun a _=>⟨rfl,fun v h=>by cases h⟩⟩
variable (hk:P.underlying k=some (.int .i64))
include hk
theorem zAG{a:Int}(ha:InI a):keyOf P k (.int .i64 a)=some (.int .i64 a):=Maps.keyOf_int_mk hk ha.wf
theorem MpV.atv(h:MpV P k w b f n){D:DataW Value}{a:Int}(ha:InI a){v z:Value}(h3:Maps.has D (.int .i64 a)=(f a).isSome/\∀v,f a=some v->∀z,D.atKey (.int .i64 a) z= .held v)
 (hv:DataW.held v=D.atKey (.int .i64 a) (.held z)):v=(f a).getD z:=by
 cases hf:f a with
 |some u=>
  rw [h3.2 u hf]at hv;injection hv
 |none=>
  have h0:Maps.has D (.int .i64 a)=false:=by rw [h3.1,hf];rfl
  rw [Maps.atKey_of_not_has h0]at hv;injection hv
theorem MpV.look{t e:TypeId}(h:MpV P k w b f n)(ht:P.underlying t=some (.map k e)){z:Value}(hz:(zeroValue e).run P w= .ok z w){a:Int}(ha:InI a):
 (Instr.lookup t (.map (some b)) (.int .i64 a) true).run P w= .ok (.tuple #[(f a).getD z,.bool (f a).isSome]) w:=by
 have h0:=h;obtain⟨D,h1,h2,h3⟩:=h;obtain⟨v,ps,hrun,hv⟩:=h1.look_ok (ZA hk) ht hz (zd:= .held z) (zp:= []) rfl (zAG hk ha);simp only [z6z,YH,Ze]at hv;rw [hrun,h0.atv hk ha (h3 a ha) hv.1,(h3 a ha).1]
theorem MpV.look1{t e:TypeId}(h:MpV P k w b f n)(ht:P.underlying t=some (.map k e)){z:Value}(hz:(zeroValue e).run P w= .ok z w){a:Int}(ha:InI a):
 (Instr.lookup t (.map (some b)) (.int .i64 a) false).run P w= .ok ((f a).getD z) w:=by
 have h0:=h;obtain⟨D,h1,h2,h3⟩:=h;obtain⟨v,ps,hrun,hv⟩:=h1.lookup (ZA hk) ht hz (zd:= .held z) (zp:= []) rfl (zAG hk ha);simp only [z6z,YH,Ze]at hv;rw [hrun,h0.atv hk ha (h3 a ha) hv.1]
theorem MpV.len{t e:TypeId}(h:MpV P k w b f n)(ht:P.underlying t=some (.map k e))(ty:TypeId):(Builtin.len_ #[t] ty #[.map (some b)]).run P w= .ok (.int .i64 (n:Int)) w:=by
 obtain⟨D,h1,h2,h3⟩:=h;rw [h1.len ht ty,h2]
theorem MpV.put{t e:TypeId}(h:MpV P k w b f n)(ht:P.underlying t=some (.map k e))(hn:n<maxLen){a:Int}(ha:InI a)(v:Value):
 ∃w',(Instr.mapUpdate t (.map (some b)) (.int .i64 a) v).run P w= .ok () w'/\MpV P k w' b (fun x=>if x=a then some v else f x) (nPut f n a)/\w.mapTurned w' b:=by
 obtain⟨D,h1,h2,h3⟩:=h;have K:=ZA hk;have ht':=h1.tidy K;have hkl:WideAt.IsKeyLit (.int .i64 a):=K.key (zAG hk ha);obtain⟨w',hrun,h1',hturn⟩:=h1.store K ht hn (zAG hk ha) (d:= .held v) (ps:= []) rfl;have hsz:Maps.size (D.put (.int .i64 a) (.held v))=nPut f n a:=by
  rw [Maps.size_put ht',(h3 a ha).1,h2];unfold nPut;cases f a<;>rfl
 refine⟨w',hrun,⟨_,by rw [<-hsz];exact zAW h1',hsz,fun x hx=> ?_⟩,hturn⟩;by_cases hxa:x=a
 .subst hxa;refine⟨by rw [Maps.has_put_same ht'.isMap hkl];simp,fun u hu z=> ?_⟩;simp only [YN,YH]at hu;subst hu;exact Maps.atKey_put_same ht'.isMap hkl _ _
 .have hne:Lit.int .i64 x≠ .int .i64 a:=fun e=>hxa (by injection e)
  refine⟨by rw [Maps.has_put_other hne,(h3 x hx).1];simp only [hxa,yv],fun u hu z=> ?_⟩;simp only [hxa,yv]at hu;rw [Maps.atKey_put_other hne];exact(h3 x hx).2 u hu z
theorem MpV.del{t e:TypeId}(h:MpV P k w b f n)(ht:P.underlying t=some (.map k e)){a:Int}(ha:InI a)(ty:TypeId):
 ∃w',(Builtin.delete_ #[t,k] ty #[.map (some b),.int .i64 a]).run P w= .ok (.tuple #[]) w'/\MpV P k w' b (fun x=>if x=a then none else f x) (nDel f n a)/\w.mapTurned w' b:=by
 obtain⟨D,h1,h2,h3⟩:=h;have K:=ZA hk;have ht':=h1.tidy K;obtain⟨w',hrun,h1',hturn⟩:=h1.drop K ht (zAG hk ha) ty;have hsz:Maps.size (D.del (.int .i64 a))=nDel f n a:=by
  have:=Maps.size_del (k:= .int .i64 a) ht';rw [(h3 a ha).1,h2]at this;unfold nDel;cases hf:f a with
  |none=>rw [hf]at this;simpa using this
  |some u=>
   rw [hf]at this;simp only [Q0,YN]at this ⊢;omega
 refine⟨w',hrun,⟨_,by rw [<-hsz];exact zAW h1',hsz,fun x hx=> ?_⟩,hturn⟩;by_cases hxa:x=a
 .subst hxa;exact⟨by rw [Maps.has_del_same];simp,fun u hu z=>by simp at hu⟩
 .have hne:Lit.int .i64 x≠ .int .i64 a:=fun e=>hxa (by injection e)
  refine⟨by rw [Maps.has_del_other hne,(h3 x hx).1];simp only [hxa,yv],fun u hu z=> ?_⟩;simp only [hxa,yv]at hu;rw [Maps.atKey_del_other hne];exact(h3 x hx).2 u hu z
omit hk
theorem z7B{α:Type} [BEq α] [LawfulBEq α]:∀ {l l':List α},l.Nodup->(∀x∈l,x∈l')->l.length<=l'.length
 | [],l',_,_=>yU _
 |x::r,l',hn,h=>by
  rw [YA]at hn;have hx:=h x (by simp);have ih:=z7B (l:=r) (l':=l'.erase x) hn.2 fun y hy=>(List.mem_erase_of_ne (by rintro rfl;exact hn.1 hy)).2 (h y (by simp [hy]))
  rw [List.length_erase_of_mem hx]at ih;have:0<l'.length:=List.length_pos_of_mem hx;rw [y8];omega
theorem MpV.ge(h:MpV P k w b f n)(hk:P.underlying k=some (.int .i64)){l:List Int}(hn:l.Nodup)(hl:∀x∈l,InI x/\(f x).isSome=true):l.length<=n:=by
 obtain⟨D,h1,h2,h3⟩:=h;obtain⟨es,rfl⟩:=(h1.tidy (ZA hk)).isMap;have h4:=z7B (α:=Int) (l:=l) (l':=es.filterMap fun p=>match p.1 with| .int _ x=>some x|_=>none) hn fun x hx=>by
  have h5:=(h3 x (hl x hx).1).1;rw [(hl x hx).2,Maps.has_eq,Z6]at h5;obtain⟨p,hp,hs⟩:=h5;have h6:=WideAt.sameKey_eq hs;exact List.mem_filterMap.2 ⟨p,hp,by rw [h6]⟩
 have h5:=List.length_filterMap_le (fun p:Lit×DataW Value=>match p.1 with| .int _ x=>some x|_=>none) es;rw [Maps.size_eq]at h2;omega
def RgV(P:Program)(k:TypeId)(w:World)(b r:Nat)(f:Int->Option Value)(n:Nat)(left:Int->Bool)(cnt:Nat):Prop:=
 ∃ (D:DataW Value) (lf:Lit->Bool),w.ranges P k z6z b r n D lf cnt/\Maps.size D=n/\(∀a,InI a->Maps.has D (.int .i64 a)=(f a).isSome/\∀v,f a=some v->∀z,D.atKey (.int .i64 a) z= .held v)/\∀a,left a=true↔InI a/\lf (.int .i64 a)=true
variable {r cnt:Nat} {left:Int->Bool}
theorem RgV.left_eq(h:RgV P k w b r f n left cnt):w.rangeLeft b r=cnt:=by
 obtain⟨D,lf,h1,_⟩:=h;exact h1.left_eq
theorem RgV.kept{row:Option Nat}(h:RgV P k w b r f n left cnt)(hg:w.grownBy w' row)(hb:some b≠row)(hr:some r≠row):RgV P k w' b r f n left cnt:=by
 obtain⟨D,lf,h1,h2,h3,h4⟩:=h;exact⟨D,lf,h1.kept hg hb hr,h2,h3,h4⟩
variable {ops:Array Oper} {rest:List Oper} {o:Oper} {a:Act} {Q:Exit->Act->World->Prop}
theorem z7j(w:World)(hg:o.guard=none)(m:Operand)(t:TypeId)(hop:o.op=Op.range t m)(hk:P.underlying k=some (.int .i64)){e:TypeId}(ht:P.underlying t=some (.map k e))
 (hm:a.eval m= .map (some b)) (h:MpV P k w b f n) (left:Int->Bool) (hl:∀a,left a=true↔InI a/\(f a).isSome=true)
 (hK:∀w',RgV P k w' b w.heap.size f n left n->w.grownBy w' none->w'.heap.size=w.heap.size+1->wpList P ops Q rest (a.put o.dst (.pointer (some ⟨w.heap.size,0,none⟩))) w'):wpList P ops Q (o::rest) a w:=by
 obtain⟨D,h1,h2,h3⟩:=h;refine wpList_range_own w hg m t hop k e (ZA hk) ht z6z b n D hm h1 fun w' hr hgr hsz=>hK w' ⟨D,_,by rw [h2]at hr;exact hr,h2,h3,fun a=> ?_⟩ hgr hsz
 rw [hl];exact⟨fun⟨ha,hf⟩=>⟨ha,by rw [(h3 a ha).1];exact hf⟩,fun⟨ha,hf⟩=>⟨ha,by rw [(h3 a ha).1]at hf;exact hf⟩⟩
theorem z85(w:World)(hg:o.guard=none)(it:Operand)(hop:o.op=Op.next it false)(hk:P.underlying k=some (.int .i64))
 (hit:a.eval it= .pointer (some ⟨r,0,none⟩)) (h:RgV P k w b r f n left cnt)
 (hDone:cnt=0->(∀x,left x=false)->wpList P ops Q rest (a.put o.dst (.tuple #[.bool false])) w)
 (hMore:∀ (x:Int) (c:Value) (w':World) (cnt':Nat),InI x->left x=true->f x=some c->RgV P k w' b r f n (fun z=>left z&& !(z==x)) cnt'->cnt'<cnt->
   w.grownBy w' (some r)->w'.heap.size=w.heap.size->(Instr.entry (.pointer (some ⟨r,0,none⟩))).run P w'= .ok (.tuple #[.int .i64 x,c]) w'->wpList P ops Q rest (a.put o.dst (.tuple #[.bool true,.int .i64 x,c])) w'):wpList P ops Q (o::rest) a w:=by
 obtain⟨D,lf,h1,h2,h3,h4⟩:=h;refine wpList_next_ranges w hg it hop k (ZA hk) z6z (Value.int .i64) id (fun key kl hkey=>by obtain⟨x,rfl,_⟩:=Maps.keyOf_int_inv hk hkey;exact⟨x,rfl⟩) (fun v y _=>⟨v,rfl⟩) b r n D lf cnt hit h1
  (fun h0 hl=>hDone h0 fun x=> ?_) (fun x c kl y w' cnt' hkey hlk hv hat hrg hlt hgr hsz hen=> ?_)
 .cases hx:left x with
  |false=>rfl
  |true=>have:=((h4 x).1 hx).2;rw [hl]at this;cases this
 .obtain⟨x',ex,rfl,hwx⟩:=Maps.keyOf_int_inv hk hkey;cases ex
  have hx:=InI.of hwx;simp only [z6z,YH]at hv;subst hv;have hfx:f x=some c:=by
   cases hf:f x with
   |some u=>
    have e1:=(h3 x hx).2 u hf (.held c);rw [hat]at e1;simp only [id]at e1;injection e1 with e1
    rw [e1]
   |none=>
    have h0:Maps.has D (.int .i64 x)=false:=by rw [(h3 x hx).1,hf];rfl
    have e1:=Maps.atKey_of_not_has h0 (z:=DataW.nil);rw [hat]at e1;cases e1
  refine hMore x c w' cnt' hx ((h4 x).2 ⟨hx,hlk⟩) hfx ⟨D,_,hrg,h2,h3,fun z=> ?_⟩ hlt hgr hsz hen;simp only [Y9,Zi,h4 z];constructor
  .rintro⟨⟨hz,hlf⟩,hne⟩;exact⟨hz,hlf,Maps.sameKey_ne (fun e=>by injection e with _ e;simp [e]at hne)⟩
  .rintro⟨hz,hlf,hne⟩;refine⟨⟨hz,hlf⟩,?_⟩;rw [yV];rintro rfl;simp [Lit.sameKey]at hne
end
end
section
open Go Tryz
abbrev SF:=Int->Option (List UInt8)
inductive Pnd where
 |wr (at_:Int) (b:List UInt8)
 |fr (at_:Int)
structure Dsk where
 size:Int
 limit:Int
 view:SF
 nv:Nat
 ground:SF
 ng:Nat
 pend:List Pnd
def SF.put(f:SF)(a:Int)(b:List UInt8):SF:=fun x=>if x=a then some b else f x
def SF.del(f:SF)(a:Int):SF:=fun x=>if x=a then none else f x
def SF.nPut(f:SF)(n:Nat)(a:Int):Nat:=if(f a).isSome then n else n+1
def SF.nDel(f:SF)(n:Nat)(a:Int):Nat:=if(f a).isSome then n-1 else n
def z3U(b old:List UInt8)(n:Int):List UInt8:=
 if n.toNat<b.length then b.take n.toNat++old.drop n.toNat else b
def doP(s:SF×Nat)(p:Pnd)(n:Int):SF×Nat:=match p with
 | .wr a b=>(s.1.put a (z3U b ((s.1 a).getD []) n),s.1.nPut s.2 a)
 | .fr a=>(s.1.del a,s.1.nDel s.2 a)
def Dsk.new(n:Int):Dsk:=⟨n,n,fun _=>none,0,fun _=>none,0,[]⟩
def Dsk.put(D:Dsk)(p:Pnd)(n:Int):Dsk:={D with view:=(doP (D.view,D.nv) p n).1,nv:=(doP (D.view,D.nv) p n).2,pend:=D.pend++ [p]}
def Dsk.why(D:Dsk)(a:Int)(b:List UInt8):Nat:=
 if a<0∨D.size<=a then 61 else if 512<b.length then 62 else if(D.view a).isNone/\D.limit<=(D.nv:Int)then 63 else 0
def Dsk.write(D:Dsk)(a:Int)(b:List UInt8):Dsk:=if D.why a b=0 then D.put (.wr a b) b.length else D
def Dsk.free(D:Dsk)(a:Int):Dsk:=if(D.view a).isSome then D.put (.fr a) 0 else D
def Dsk.sync(D:Dsk):Dsk:={D with ground:=D.view,ng:=D.nv,pend:= []}
structure FinL(f:SF)(n:Nat)(l:List (Int×List UInt8)):Prop where
 nodup:(l.map (·.1)).Nodup
 len:l.length=n
 look:∀a,(l.find? fun x=>x.1==a).map (·.2)=f a
theorem FinL.nil:FinL (fun _=>none) 0 []:=⟨by simp,rfl,fun _=>rfl⟩
theorem FinL.has{f:SF}{n:Nat}{l:List (Int×List UInt8)}(h:FinL f n l)(a:Int):(f a).isSome=true↔a∈l.map (·.1):=by
 rw [<-h.look a];constructor
 .intro hs;cases hf:l.find? (fun x=>x.1==a)with
  |none=>rw [hf]at hs;cases hs
  |some x=>
   have h1:=yr hf;have h2:=Yu hf;simp only [Z9]at h2;exact yP.2 ⟨x,h1,h2⟩
 .intro hm;obtain⟨x,hx,rfl⟩:=yP.1 hm;cases hf:l.find? (fun y=>y.1==x.1)with
  |some y=>rfl
  |none=>have:=Yk.1 hf x hx;simp at this
theorem z4e{l:List (Int×List UInt8)}{a x:Int}(hne:x≠a):(l.filter fun y=>y.1 != a).find? (fun y=>y.1==x)=l.find? fun y=>y.1==x:=by
 induction l with
 |nil=>rfl
 |cons y r ih=>
  by_cases hy:y.1=a
  .rw [Q4 (by simp [hy]),ih,Q8 (by simp [hy];exact fun e=>hne e.symm)]
  .rw [ZQ (by simpa using hy)];by_cases hx:y.1=x
   .rw [List.find?_cons_of_pos (by simpa using hx),List.find?_cons_of_pos (by simpa using hx)]
   .rw [Q8 (by simpa using hx),Q8 (by simpa using hx),ih]
theorem z4d{l:List (Int×List UInt8)}{a:Int}:(l.filter fun y=>y.1 != a).find? (fun y=>y.1==a)=none:=by
 rw [Yk];intro y hy;have:=(YD.1 hy).2;simpa using this
theorem zDb{l:List (Int×List UInt8)}{a:Int}(h:(l.map (·.1)).Nodup):(l.filter fun y=>y.1 != a).length=if a∈l.map (·.1)then l.length-1 else l.length:=by
 induction l with
 |nil=>simp
 |cons y r ih=>
  simp only [yy,YA]at h;have ih:=ih h.2;by_cases hy:y.1=a
  .rw [Q4 (by simp [hy]),ih,yA (by rw [<-hy];exact h.1),yB (by simp [hy])];simp
  .rw [ZQ (by simpa using hy),y8,ih];have e:(a∈List.map (·.1) (y::r))↔a∈List.map (·.1) r:=by
    simp only [yy,y9];exact⟨fun h=>h.resolve_left (fun e=>hy e.symm),.inr⟩
   by_cases hm:a∈List.map (·.1) r
   .rw [yB hm,yB (e.2 hm),y8];have:0<r.length:=by
     cases r with
     |nil=>simp at hm
     |cons _ _=>simp
    omega
   .rw [yA hm,yA (fun h=>hm (e.1 h)),y8]
theorem zAR{l:List (Int×List UInt8)}{a:Int}(h:(l.map (·.1)).Nodup):((l.filter fun y=>y.1 != a).map (·.1)).Nodup:=h.sublist (List.Sublist.map _ Zy)
theorem FinL.del{f:SF}{n:Nat}{l:List (Int×List UInt8)}(h:FinL f n l)(a:Int):FinL (f.del a) (f.nDel n a) (l.filter fun y=>y.1 != a):=by
 refine⟨zAR h.nodup,?_,fun x=> ?_⟩
 .rw [zDb h.nodup,h.len];unfold SF.nDel;by_cases hm:a∈l.map (·.1)
  .rw [yB hm,yB ((h.has a).2 hm)]
  .rw [yA hm,yA (fun e=>hm ((h.has a).1 e))]
 .unfold SF.del;by_cases hx:x=a
  .subst hx;rw [z4d,yB rfl];rfl
  .rw [z4e hx,yA hx,h.look]
theorem FinL.put{f:SF}{n:Nat}{l:List (Int×List UInt8)}(h:FinL f n l)(a:Int)(b:List UInt8):FinL (f.put a b) (f.nPut n a) ((l.filter fun y=>y.1 != a)++ [(a,b)]):=by
 have hd:=h.del a;refine⟨?_,?_,fun x=> ?_⟩
 .rw [Y6,ZI];refine⟨hd.nodup,by simp,fun x hx y hy=> ?_⟩;simp only [yy,Yx,yJ]at hy;subst hy;rintro rfl;obtain⟨z,hz,rfl⟩:=yP.1 hx;have:=(YD.1 hz).2;simp at this
 .rw [y6,hd.len];unfold SF.nDel SF.nPut;by_cases hs:(f a).isSome=true
  .rw [yB hs,yB hs];have hm:=(h.has a).1 hs;have:0<l.length:=by
    cases l with
    |nil=>simp at hm
    |cons _ _=>simp
   have:=h.len;simp;omega
  .rw [yA hs,yA hs];simp
 .rw [List.find?_append];unfold SF.put;by_cases hx:x=a
  .subst hx;rw [z4d,yB rfl];simp
  .rw [z4e hx,yA hx,<-h.look x];cases l.find? (fun y=>y.1==x)with
   |some y=>rfl
   |none=>simp;exact fun e=>hx e.symm
theorem zCb:∀ (N:Nat) (l:List Int),l.Nodup->(∀x∈l,0<=x/\x<(N:Int))->l.length<=N
 |0,l,_,h=>by
  cases l with
  |nil=>simp
  |cons x r=>have:=h x (by simp);omega
 |N+1,l,hn,h=>by
  have h1:(l.filter fun x=>x != (N:Int)).length<=N:=zCb N _ (hn.sublist Zy) fun x hx=>by
   have h2:=YD.1 hx;have h3:=h x h2.1;have h4:x≠(N:Int):=by simpa using h2.2
   omega
  have h5:∀ (l:List Int),l.Nodup->l.length<=(l.filter fun x=>x != (N:Int)).length+1:=by
   intro l
   induction l with
   |nil=>intro _;simp
   |cons x r ih=>
    intro hn;rw [YA]at hn;by_cases hx:x=(N:Int)
    .rw [Q4 (by simp [hx])];have e:(r.filter fun y=>y != (N:Int))=r:=Ys.2 fun y hy=>by
      have:y≠(N:Int):=fun e=>hn.1 (by rw [hx,<-e];exact hy)
      simpa using this
     rw [e];simp
    .rw [ZQ (by simpa using hx)];have:=ih hn.2;simp only [y8];omega
  have:=h5 l hn;omega
def SecOk(x:Int×List UInt8):Prop:=0<=x.1/\x.1<65536/\x.2.length<=512
def FinK(f:SF)(n:Nat):Prop:=∃l,FinL f n l/\∀x∈l,SecOk x
theorem FinK.nil:FinK (fun _=>none) 0:=⟨[],FinL.nil,by simp⟩
theorem FinK.bound{f:SF}{n:Nat}(h:FinK f n):n<=65536:=by
 obtain⟨l,h1,h2⟩:=h;have:=zCb 65536 (l.map (·.1)) h1.nodup fun x hx=>by
  obtain⟨y,hy,rfl⟩:=yP.1 hx;have:=h2 y hy;exact⟨this.1,this.2.1⟩
 rw [yw,h1.len]at this;exact this
theorem FinK.at{f:SF}{n:Nat}(h:FinK f n){a:Int}{b:List UInt8}(hf:f a=some b):0<=a/\a<65536/\b.length<=512:=by
 obtain⟨l,h1,h2⟩:=h;rw [<-h1.look a]at hf;cases hfd:l.find? (fun x=>x.1==a)with
 |none=>rw [hfd]at hf;cases hf
 |some x=>
  rw [hfd]at hf;simp only [Z0,YH]at hf;have h3:=h2 x (yr hfd);have h4:=Yu hfd;simp only [Z9]at h4;subst h4 hf;exact h3
theorem FinK.put{f:SF}{n:Nat}(h:FinK f n){a:Int}{b:List UInt8}(h0:0<=a)(h1:a<65536)(hb:b.length<=512):FinK (f.put a b) (f.nPut n a):=by
 obtain⟨l,h2,h3⟩:=h;refine⟨_,h2.put a b,fun x hx=> ?_⟩;rcases yF.1 hx with h4|h4
 .exact h3 x (YD.1 h4).1
 .simp only [yJ]at h4;subst h4;exact⟨h0,h1,hb⟩
theorem FinK.del{f:SF}{n:Nat}(h:FinK f n)(a:Int):FinK (f.del a) (f.nDel n a):=by
 obtain⟨l,h2,h3⟩:=h;exact⟨_,h2.del a,fun x hx=>h3 x (YD.1 hx).1⟩
theorem zGK{b old:List UInt8}{n:Int}(hb:b.length<=512)(ho:old.length<=512):(z3U b old n).length<=512:=by
 unfold z3U
 split
 .rw [y6,yC,yI];omega
 .exact hb
def zIb:Pnd->Prop
 | .wr a b=>0<=a/\a<65536/\b.length<=512
 | .fr a=>0<=a/\a<65536
theorem doP_ok{s:SF×Nat}{p:Pnd}(h:FinK s.1 s.2)(hp:zIb p)(n:Int):FinK (doP s p n).1 (doP s p n).2:=by
 cases p with
 |wr a b=>
  refine h.put hp.1 hp.2.1 (zGK hp.2.2 ?_);cases hf:s.1 a with
  |none=>simp
  |some o=>exact(h.at hf).2.2
 |fr a=>exact h.del a
structure Dsk.Ok(D:Dsk):Prop where
 view:FinK D.view D.nv
 ground:FinK D.ground D.ng
 pend:∀p∈D.pend,zIb p
 size:1<=D.size/\D.size<=65536
theorem Dsk.Ok.new{n:Int}(h:1<=n)(h2:n<=65536):(Dsk.new n).Ok:=⟨FinK.nil,FinK.nil,by simp [Dsk.new],⟨h,h2⟩⟩
theorem Dsk.Ok.put{D:Dsk}(h:D.Ok){p:Pnd}(hp:zIb p)(n:Int):(D.put p n).Ok:=by
 refine⟨doP_ok (s:=(D.view,D.nv)) h.view hp n,h.ground,fun q hq=> ?_,h.size⟩;rcases yF.1 hq with h1|h1
 .exact h.pend q h1
 .simp only [yJ]at h1;subst h1;exact hp
theorem zD5{D:Dsk}{a:Int}{b:List UInt8}(h:D.why a b=0):0<=a/\a<D.size/\b.length<=512:=by
 unfold Dsk.why at h
 split at h
 .cases h
 .split at h
  .cases h
  .omega
theorem Dsk.Ok.write{D:Dsk}(h:D.Ok)(a:Int)(b:List UInt8):(D.write a b).Ok:=by
 unfold Dsk.write
 split
 .rename_i hw;have h1:=zD5 hw;have h2:=h.size;exact h.put (p:= .wr a b) ⟨h1.1,by omega,h1.2.2⟩ _
 .exact h
theorem Dsk.Ok.free{D:Dsk}(h:D.Ok)(a:Int):(D.free a).Ok:=by
 unfold Dsk.free
 split
 .rename_i hs;obtain⟨b,hb⟩:=ZN.1 hs;have:=h.view.at hb;exact h.put (p:= .fr a) ⟨this.1,this.2.1⟩ _
 .exact h
theorem Dsk.Ok.sync{D:Dsk}(h:D.Ok):D.sync.Ok:=⟨h.view,h.view,by simp [Dsk.sync],h.size⟩
def z7c(s:List UInt8):Option (Nat×List UInt8):=match z1h s with
 |some ((q,t),n)=>if n=s.length/\0<q then some (q,t)else none
 |none=>none
def z5x(f:SF)(a:Int)(x:Nat×Int×List UInt8)(i:Int):Nat×Int×List UInt8:=match f (a+i)with
 |some s=>match z7c s with
  |some (q,t)=>if x.1<q then(q,i,t)else x
  |none=>x
 |none=>x
def z1q(f:SF)(a:Int):Nat×Int×List UInt8:=z5x f a (z5x f a (0,1,[]) 0) 1
def zJp(x:Nat×Int×List UInt8):Nat:=if x.1=0 then 121 else 0
end
end Go.Proofs.YthnlcbamjehpdaaGreatDoor
