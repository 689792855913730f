/- Part 20. -/
import Derived.Test.YtdkobefpnjbgnaaGreatDoorMovePutsJ19
namespace Go.Proofs.YtdkobefpnjbgnaaGreatDoor
set_option linter.unusedVariables false
set_option maxHeartbeats 16000000
set_option maxRecDepth 100000
section
open Go Go.RowKit
theorem zGy(l:List Sg):∀y∈z3H l,y.oneCell'=true:=by
 intro y hy;obtain⟨s,_,hs⟩:=List.mem_flatMap.1 hy;exact zAv s y hs
theorem z76(v0:Value)(l:List Sg)(w:World)(hl:l.length≤1000000)(hr:Rg3 w v0 l):
 Calls Tryz.prog 140 #[v0] w fun e w'=>∃A c,e= .returned (.slice A l.length c)∧w'.ownsRow w.heap.size 223 3 (.slice A l.length c) l.length (z3H l)∧Below w.heap.size w w':=by
 have HR:=zz hr;obtain⟨_,A,c,rfl,hlc,hcm,hA0,_⟩:=hr;rcases A with _|ad
 ·obtain rfl:c=0:=hA0 rfl;have hl0:l.length=0:=by omega
  obtain rfl:l= []:=List.eq_nil_of_length_eq_zero hl0;have hnil:=Lib.run_eql_slice_nil (P:=Tryz.prog);go_enter Tryz.func140,Tryz.ntmps140
  go_wp2_with fail
  go_ret
  exact⟨none,0,rfl,World.ownsRow_nil _ _ _ _,Below.refl _ _⟩
 ·have hma:(w.alloc (.cells #[] 223)).ownsRow w.heap.size 223 3 (.slice (some ⟨w.heap.size,0,none⟩) 0 0) 0 []:=World.ownsRow_made w #[] 0 (Nat.le_refl _) (by simp [maxLen]) (by simp);have HA:=zz (KSl.later HR.out ((Below.refl _ _).alloc (Nat.le_refl _) (.cells #[] 223)));have hnil:=Lib.run_eql_slice_nil (P:=Tryz.prog);go_enter Tryz.func140,Tryz.ntmps140
  go_wp2_with (at_builtin;refine z05 _ rfl (.tmp 5) (.tmp 6) zFX rfl hma HA.out rfl rfl (zGy _) (by simp only [maxLen];omega) (by omega) (by simp) ?_;intro A1 k1 c1 w1 hown1 hg1 hat1)
  go_ret
  rw [Nat.zero_add,List.nil_append]at hown1;obtain rfl:=z0V hown1;exact⟨A1,c1,rfl,hown1,z02 ((Below.refl _ _).alloc (Nat.le_refl _) _) hma hg1 (by simp)⟩
theorem zBD(S:Nat→Prop)(v0:Value)(l:List UInt8)(w:World)(hl:l.length≤1099511627776)(hr:Bs S w v0 l):
 Calls Tryz.prog 141 #[v0] w fun e w'=>∃A c,e= .returned (.slice A l.length c)∧Ob 5 w' w.heap.size (.slice A l.length c) l∧Below w.heap.size w w':=by
 have HR:=zz hr;obtain⟨A,c,rfl,hlc,hcm,hA0,_⟩:=hr.at;rcases A with _|ad
 ·obtain rfl:c=0:=hA0 rfl;have hl0:l.length=0:=by omega
  obtain rfl:l= []:=List.eq_nil_of_length_eq_zero hl0;have hnil:=Lib.run_eql_slice_nil (P:=Tryz.prog);go_enter Tryz.func141,Tryz.ntmps141
  go_wp2_with fail
  go_ret
  exact⟨none,0,rfl,Ob.nil _ _ _,Below.refl _ _⟩
 ·have hma:Ob 5 (w.alloc (.cells #[] 5)) w.heap.size (.slice (some ⟨w.heap.size,0,none⟩) 0 0) []:=Ob.made _ _ _ (Nat.le_refl _) rfl;have HA:=zz (Sl.alloc1 HR.out (.cells #[] 5));have hnil:=Lib.run_eql_slice_nil (P:=Tryz.prog);go_enter Tryz.func141,Tryz.ntmps141
  go_wp2_with (at_builtin;refine z03 _ rfl (.tmp 5) (.tmp 6) z0Z rfl hma HA.out rfl rfl (by simp;omega) (by simp) ?_;intro A1 k1 c1 w1 hown1 hg1 hat1)
  go_ret
  rw [List.nil_append]at hown1;obtain rfl:=hown1.len;exact⟨A1,c1,rfl,hown1,z02 ((Below.refl _ _).alloc (Nat.le_refl _) _) hma hg1 (by simp)⟩
theorem zHI{D:Dsk}{p:Int}{b:List UInt8}{m k:Nat}(h:¬512*k<b.length):z3y D p b m k=(D,0):=by
 cases m with
 |zero=>rfl
 |succ m=>rw [z3y,if_neg h]
theorem zFF{D:Dsk}{p:Int}{b:List UInt8}{m k:Nat}(h:512*k<b.length)(hw:D.why (p+(k:Int)) ((b.drop (512*k)).take 512)=0):z3y D p b (m+1) k=z3y (D.write (p+(k:Int)) ((b.drop (512*k)).take 512)) p b m (k+1):=by
 rw [z3y,if_pos h,if_pos hw]
theorem z9t{D:Dsk}{p:Int}{b:List UInt8}{m k:Nat}(h:512*k<b.length)(hw:D.why (p+(k:Int)) ((b.drop (512*k)).take 512)≠0):z3y D p b (m+1) k=(D,D.why (p+(k:Int)) ((b.drop (512*k)).take 512)):=by
 rw [z3y,if_pos h,if_neg hw]
theorem z9n{D:Dsk}{x:Int}{b:List UInt8}(h:D.why x b≠0):D.write x b=D:=by
 unfold Dsk.write;rw [if_neg h]
theorem z9J(p:Int)(b:List UInt8):∀ (m k:Nat) (D:Dsk),(z3y D p b m k).1.pend.length≤D.pend.length+m
 |0,k,D=>by rw [z3y];simp
 |m+1,k,D=>by
  rw [z3y]
  split
  ·split
   ·have h1:=z9J p b m (k+1) (D.write (p+(k:Int)) ((b.drop (512*k)).take 512));have h2:=z4U D (p+(k:Int)) ((b.drop (512*k)).take 512);omega
   ·simp
  ·simp
structure PtSt(h h':Zn)(w wr:World)(D D':Dsk)(p:Int)(b:List UInt8)(k0 k m:Nat):Prop where
 dk:Dk wr h' D'
 ok:D'.Ok
 st:Stp h w h' wr
 eq:z3y D p b b.length k0=z3y D' p b m k
 fuel:b.length≤512*(k+m)
 pend:D'.pend.length+k0≤D.pend.length+k
theorem zFl(h:Zn)(D:Dsk)(gl:Nat)(a:Int)(n size i frm:Nat)(lv sv:Value)(last synced:Nat)(v0:Value)(b:List UInt8)(w:World)(hd:Dk w h D)(hok:D.Ok)(hl:Lb w gl h.g a n size lv sv last synced)(hs:size≤64)(hi:i≤64)(h0:0≤a)(h1:a≤65536)(hp:D.pend.length≤900000)
 (hb:Ub w 0 v0 b) (hbl:b.length≤40000) (hf:frm≤b.length):
 Calls Tryz.prog 142 #[.pointer (some ⟨gl,0,none⟩),.int .i64 (i:Int),.int .i64 (frm:Int),v0] w fun e w'=>e= .returned (.int .i64 ((z3y D (a+(i:Int)*size) b b.length (frm / 512)).2:Int))∧∃h',Dk w' h' (z3y D (a+(i:Int)*size) b b.length (frm / 512)).1∧Stp h w h' w':=by
 have HD:=zz hd;have HOK:=zz hok;have HL:=zz hl;have HB:=zz hb;have hmul:=zB9 hi hs;have hpp:Hid (D.pend.length≤900000):=hp;obtain⟨A0,c0,rfl,hlc,hcm,-,-⟩:=hb.bs.at;have hq:(frm:Int).tdiv 512=((frm / 512:Nat):Int):=(Int.ofNat_tdiv frm 512).symm;have hk0:frm / 512≤100:=by omega
 obtain⟨k0,hk9⟩:∃k0,frm / 512=k0:=⟨_,rfl⟩;rw [hk9]at hq hk0 ⊢;clear hd hok hl hb hp hk9;go_enter Tryz.func142,Tryz.ntmps142
 go_wp2_with fail
 go_loopw [9] (fun kv wr=>∃ (k m:Nat) (D':Dsk) (h':Zn),kv= .int .i64 (k:Int)∧k≤100∧Hid (PtSt h h' w wr D D' (a+(i:Int)*size) b k0 k m)) (fun kv _=>200-(intOf kv).toNat)
 case atStart=>exact⟨k0,b.length,D,h,by first|rfl|(rw [hq]),hk0,HD.out,HOK.out,Stp.refl _ _,rfl,by omega,by omega⟩
 case round=>
  obtain⟨k,m,D',h',rfl,hk,PT⟩:=hrel;obtain⟨lo,hlo⟩:∃lo,512*k=lo:=⟨_,rfl⟩;have hw1:IntKind.i64.wrap ((k:Int)*512)=(lo:Int):=by rw [i64_in (by omega) (by omega)];omega
  have hw2:(k:Int)*512=(lo:Int):=by omega
  have hw8:IntKind.i64.wrap (lo:Int)=(lo:Int):=i64_in (by omega) (by omega);by_cases hlt:lo<b.length
  ·have LR:=zz (PT.out.st.lb HD.out HL.out);have BR:=zz (PT.out.st.ub HD.out HB.out);obtain⟨_,A',c',he,_,_,_,hA⟩:=HB.out;cases he
   obtain⟨bb,ob,rfl,-,-⟩:=hA (by omega);clear hA;have HLO:=zz hlo;have hi1:(lo:Int)<(b.length:Int):=by omega
   have hi2:¬c0=lo:=by omega
   obtain⟨hj,hhj⟩:∃hj,lo+512=hj:=⟨_,rfl⟩;have hw3:((k:Int)+1)*512=(hj:Int):=by omega
   have hw4:IntKind.i64.wrap (((k:Int)+1)*512)=(hj:Int):=by rw [i64_in (by omega) (by omega)];omega
   have hw5:IntKind.i64.wrap ((i:Int)*size)=(i:Int)*size:=i64_in (by omega) (by omega);have hw6:IntKind.i64.wrap (a+(i:Int)*size)=a+(i:Int)*size:=i64_in (by omega) (by omega);have hw7:IntKind.i64.wrap (a+(i:Int)*size+k)=a+(i:Int)*size+k:=i64_in (by omega) (by omega);have l0:wr.drew.cell? ⟨gl,0,none⟩=some (.pointer (some ⟨h.g,0,none⟩)):=LR.out.cell 0;have l1:wr.drew.cell? ⟨gl,1,none⟩=some (.int .i64 a):=LR.out.cell 1;have l3:wr.drew.cell? ⟨gl,3,none⟩=some (.int .i64 (size:Int)):=LR.out.cell 3;have HJ:=zz hhj;clear hlo;by_cases hbe:b.length<hj
   ·have i4:(b.length:Int)<(hj:Int):=by omega
    have i7:min (hj:Int) (b.length:Int)=(b.length:Int):=by omega
    have hch:Hid ((b.drop lo).take (b.length-lo)=(b.drop (512*k)).take 512):=by
     rw [Hid,HLO.out];have:=HJ.out;by_cases h9:b.length-lo=512
     ·rw [h9]
     ·rw [List.take_of_length_le (by rw [List.length_drop];omega),List.take_of_length_le (by rw [List.length_drop];omega)]
    have i5:(lo:Int)≤(b.length:Int):=by omega
    have i6:(b.length:Int)≤(c0:Int):=by omega
    go_wp2_with fail
    go_still_tail 22,(by kernel_rfl)
    change wpList _ _ _ _ _ wr.drew;have D2:=zz (PT.out.dk.later (below_drewN (Below.refl wr.heap.size wr) 1));have B2:=zz (BR.out.later (below_drewN (Below.refl wr.heap.size wr) 1));have S2:=zz (PT.out.st.trans (Stp.below (below_drewN (Below.refl wr.heap.size wr) 1)));have hg':h.g=h'.g:=S2.out.g.symm;have hbs:Bs (UbS wr.drew 0) wr.drew (.slice (some ⟨bb,ob+lo,none⟩) (b.length-lo) (c0-lo)) ((b.drop lo).take (b.length-lo)):=by
     have h9:=Bs.cut (k:=lo) B2.out (by omega);rw [if_neg hi2,←List.length_drop]at h9;exact Bs.pre h9 (by rw [List.length_drop];omega)
    rw [hch.out]at hbs;have HBS:=zz hbs;have hck:((b.drop (512*k)).take 512).length≤512:=by rw [List.length_take];omega
    have hwo:=z4U D' (a+(i:Int)*size+k) ((b.drop (512*k)).take 512);obtain⟨m,rfl⟩:∃j,m=j+1:=⟨m-1,by have:=PT.out.fuel;have:=HLO.out;omega⟩;have hgo:=zz (@zFF D' (a+(i:Int)*size) b m k (by have:=HLO.out;omega));have hno:=zz (@z9t D' (a+(i:Int)*size) b m k (by have:=HLO.out;omega));have hnw:=zz (@z9n D' (a+(i:Int)*size+k) ((b.drop (512*k)).take 512));clear hbs hw1 hw2 hw3 hw4 hw5 hw6 hw7 hw8 l1 l3;generalize (b.drop (512*k)).take 512=ch at*;rw [hg']at*;go_wp2_with fail
    refine(z7m h' D' (a+(i:Int)*size+k) _ _ ch wr.drew D2.out PT.out.ok (by unfold InI;omega) HBS.out (by omega) (by have:=PT.out.pend;have:=hpp.out;omega)).mono ?_;rintro e w4 ⟨rfl,h4,hd4,hs4⟩;obtain⟨y,hy⟩:∃y,D'.why (a+(i:Int)*size+k) ch=y:=⟨_,rfl⟩;rw [hy];by_cases hy0:y=0
    ·subst hy0;have PT4:Hid (PtSt h h4 w w4 D (D'.write (a+(i:Int)*size+k) ch) (a+(i:Int)*size) b k0 (k+1) m):=
      ⟨hd4,PT.out.ok.write _ _,S2.out.trans hs4,PT.out.eq.trans (hgo.out hy),by have:=PT.out.fuel;omega,by have:=PT.out.pend;omega⟩
     have hlk:k<100:=by have:=HLO.out;omega
     clear hy hd4 hs4 hwo;go_wp2_with fail
     go_roundw
     case rel=>exact⟨k+1,m,_,h4,by go_num,by omega,PT4⟩
     case measure=>simp [intOf];omega
    ·have hy1:¬ ((y:Int)=0):=by omega
     have hy2:((y:Int)==0)=false:=by rw [beq_eq_false_iff_ne];omega
     have HY0:=zz hy0;have HY:=zz hy;have D4:=zz hd4;have S4:=zz (S2.out.trans hs4);clear hy0 hy hd4 hs4 hwo;go_wp2_with fail
     go_ret
     have e1:=PT.out.eq.trans (hno.out (by rw [HY.out];exact HY0.out));rw [HY.out]at e1;rw [e1];refine⟨rfl,h4,?_,S4.out⟩;have:=D4.out;rw [hnw.out (by rw [HY.out];exact HY0.out)]at this;exact this
   ·have i4:¬ (b.length:Int)<(hj:Int):=by omega
    have i7:min (hj:Int) (b.length:Int)=(hj:Int):=by omega
    have hch:Hid ((b.drop lo).take (hj-lo)=(b.drop (512*k)).take 512):=by
     rw [Hid,HLO.out];have:=HJ.out;by_cases h9:hj-lo=512
     ·rw [h9]
     ·rw [List.take_of_length_le (by rw [List.length_drop];omega),List.take_of_length_le (by rw [List.length_drop];omega)]
    have i5:(lo:Int)≤(hj:Int):=by omega
    have i6:(hj:Int)≤(c0:Int):=by omega
    go_wp2_with fail
    go_still_tail 22,(by kernel_rfl)
    change wpList _ _ _ _ _ wr.drew;have D2:=zz (PT.out.dk.later (below_drewN (Below.refl wr.heap.size wr) 1));have B2:=zz (BR.out.later (below_drewN (Below.refl wr.heap.size wr) 1));have S2:=zz (PT.out.st.trans (Stp.below (below_drewN (Below.refl wr.heap.size wr) 1)));have hg':h.g=h'.g:=S2.out.g.symm;have hbs:Bs (UbS wr.drew 0) wr.drew (.slice (some ⟨bb,ob+lo,none⟩) (hj-lo) (c0-lo)) ((b.drop lo).take (hj-lo)):=by
     have h9:=Bs.cut (k:=lo) B2.out (by omega);rw [if_neg hi2,←List.length_drop]at h9;exact Bs.pre h9 (by rw [List.length_drop];omega)
    rw [hch.out]at hbs;have HBS:=zz hbs;have hck:((b.drop (512*k)).take 512).length≤512:=by rw [List.length_take];omega
    have hwo:=z4U D' (a+(i:Int)*size+k) ((b.drop (512*k)).take 512);obtain⟨m,rfl⟩:∃j,m=j+1:=⟨m-1,by have:=PT.out.fuel;have:=HLO.out;omega⟩;have hgo:=zz (@zFF D' (a+(i:Int)*size) b m k (by have:=HLO.out;omega));have hno:=zz (@z9t D' (a+(i:Int)*size) b m k (by have:=HLO.out;omega));have hnw:=zz (@z9n D' (a+(i:Int)*size+k) ((b.drop (512*k)).take 512));clear hbs hw1 hw2 hw3 hw4 hw5 hw6 hw7 hw8 l1 l3;generalize (b.drop (512*k)).take 512=ch at*;rw [hg']at*;go_wp2_with fail
    refine(z7m h' D' (a+(i:Int)*size+k) _ _ ch wr.drew D2.out PT.out.ok (by unfold InI;omega) HBS.out (by omega) (by have:=PT.out.pend;have:=hpp.out;omega)).mono ?_;rintro e w4 ⟨rfl,h4,hd4,hs4⟩;obtain⟨y,hy⟩:∃y,D'.why (a+(i:Int)*size+k) ch=y:=⟨_,rfl⟩;rw [hy];by_cases hy0:y=0
    ·subst hy0;have PT4:Hid (PtSt h h4 w w4 D (D'.write (a+(i:Int)*size+k) ch) (a+(i:Int)*size) b k0 (k+1) m):=
      ⟨hd4,PT.out.ok.write _ _,S2.out.trans hs4,PT.out.eq.trans (hgo.out hy),by have:=PT.out.fuel;omega,by have:=PT.out.pend;omega⟩
     have hlk:k<100:=by have:=HLO.out;omega
     clear hy hd4 hs4 hwo;go_wp2_with fail
     go_roundw
     case rel=>exact⟨k+1,m,_,h4,by go_num,by omega,PT4⟩
     case measure=>simp [intOf];omega
    ·have hy1:¬ ((y:Int)=0):=by omega
     have hy2:((y:Int)==0)=false:=by rw [beq_eq_false_iff_ne];omega
     have HY0:=zz hy0;have HY:=zz hy;have D4:=zz hd4;have S4:=zz (S2.out.trans hs4);clear hy0 hy hd4 hs4 hwo;go_wp2_with fail
     go_ret
     have e1:=PT.out.eq.trans (hno.out (by rw [HY.out];exact HY0.out));rw [HY.out]at e1;rw [e1];refine⟨rfl,h4,?_,S4.out⟩;have:=D4.out;rw [hnw.out (by rw [HY.out];exact HY0.out)]at this;exact this
  ·have hfin:Hid (z3y D' (a+(i:Int)*size) b m k=(D',0)):=zHI (by omega);clear hlo;go_wp2_with fail
   go_ret
   have e1:=PT.out.eq;rw [hfin.out]at e1;rw [e1];exact⟨rfl,h',PT.out.dk,PT.out.st⟩
theorem zJJ{w:World}{B:Nat}{v:Value}{L:List Sg}(h:w.ownsRow B 223 3 v L.length (z3H L))(hn:0<L.length):∃g c,v= .slice (some ⟨g,0,none⟩) L.length c∧B≤g∧Hid (∀j,w.frozen? ⟨g,j,none⟩=false)∧
 Hid (∀j (hj:j<L.length),w.cell? ⟨g,j*3,none⟩=some (.int .i64 (L[j].at':Int))∧w.cell? ⟨g,j*3+1,none⟩=some (.int .u64 (L[j].base:Int))∧w.cell? ⟨g,j*3+2,none⟩=some (.int .u64 (L[j].count:Int))):=by
 obtain⟨A,c,hv,_,_,hA⟩:=Rg3.at (KSl.of_own (by omega) h);rcases h.2 with⟨h2,h3⟩|⟨g,cap,cur,h2,hg,hh,_⟩
 ·omega
 ·obtain⟨b,o,hA1,_,hc⟩:=hA hn;rw [h2]at hv;injection hv with e1 _ e3
  rw [hA1]at e1;injection e1 with e1
  injection e1 with e1 e2
  subst e1 e2;refine⟨g,cap,h2,hg,fun j=>by simp [World.frozen?,hh],fun j hj=> ?_⟩;have:=hc j hj;simpa using this
theorem z7Z(a b c c':Nat):∀ (L0:List Sg),z3H (L0++ [⟨a,b,c'⟩])=(z3H (L0++ [⟨a,b,c⟩])).set (L0.length*3+2) (.int .u64 (c':Int))
 | []=>rfl
 |s::L0=>by
  have ih:=z7Z a b c c' L0;have e:∀ (x:Sg) (L:List Sg),z3H (x::L)= .int .i64 (x.at':Int):: .int .u64 (x.base:Int):: .int .u64 (x.count:Int)::z3H L:=fun _ _=>rfl
  rw [List.cons_append,e,ih,List.cons_append,e,List.length_cons,show(L0.length+1)*3+2=L0.length*3+2+1+1+1 by omega];simp only [List.set_cons_succ]
theorem zJO{w:World}{B g c:Nat}{L0:List Sg}{s0:Sg}(h:w.ownsRow B 223 3 (.slice (some ⟨g,0,none⟩) (L0.length+1) c) (L0++ [s0]).length (z3H (L0++ [s0]))):
 (w.setCell ⟨g,L0.length*3+2,none⟩ (.int .u64 (((s0.count+1)%U64:Nat):Int))).ownsRow B 223 3 (.slice (some ⟨g,0,none⟩) (L0.length+1) c) (z46 (L0++ [s0])).length (z3H (z46 (L0++ [s0]))):=by
 obtain⟨a,b,k⟩:=s0;rw [z5D,z7Z a b k];simp only [List.length_append,List.length_singleton]at h ⊢;exact(World.ownsRow.stored h (L0.length*3+2) _).1
theorem z84{w:World}{B:Nat}{A:Option Addr}{c:Nat}{L0:List Sg}{s0:Sg}(h:w.ownsRow B 223 3 (.slice A (L0++ [s0]).length c) (L0++ [s0]).length (z3H (L0++ [s0]))):∃g,A=some ⟨g,0,none⟩∧B≤g∧Hid (∀j,w.frozen? ⟨g,j,none⟩=false)∧
 Hid (w.cell? ⟨g,L0.length*3,none⟩=some (.int .i64 (s0.at':Int))∧w.cell? ⟨g,L0.length*3+2,none⟩=some (.int .u64 (s0.count:Int))):=by
 have hl:L0.length<(L0++ [s0]).length:=by simp
 obtain⟨g,c',hv,hB,FZ,CE⟩:=zJJ h (by omega);injection hv with e1 _ _
 have:=CE.out L0.length hl;have hx:(L0++ [s0])[L0.length]'hl=s0:=by simp
 rw [hx]at this;exact⟨g,e1,hB,FZ,this.1,this.2.2⟩
theorem zIs{w w':World}{B B' g c:Nat}{L0:List Sg}{s0:Sg}{v:Value}{l:List UInt8}{i:Nat}(h:w.ownsRow B 223 3 (.slice (some ⟨g,0,none⟩) (L0++ [s0]).length c) (L0++ [s0]).length (z3H (L0++ [s0])))(ho:Ob 5 w B' v l)(hg:w.grownBy w' v.ownBlock)(hi:s0.at'=i):
 Hid (w'.ownsRow B 223 3 (.slice (some ⟨g,0,none⟩) (L0++ [s0]).length c) (L0++ [s0]).length (z3H (L0++ [s0])))∧w'.cell? ⟨g,L0.length*3,none⟩=some (.int .i64 (i:Int)):=by
 have h2:=z0q (ks:= [some 223]) h (SameK.grown hg fun z t hz ht=>by
  have:=z1E ho hz;rw [this]at ht;cases ht
  decide) (by decide)
 obtain⟨g',e,_,_,CE⟩:=z84 h2;injection e with e
 injection e with e
 subst e hi;exact⟨h2,CE.out.1⟩
theorem ApC.last{l:Wl}{q:Nat}{t head b:List UInt8}{L0:List Sg}{s0:Sg}{s:List UInt8}{i:Nat}{fr:Bool}(c:ApC l q head b (L0++ [s0]) s i fr)(ok:l.Ok)(ht:¬ (32768<t.length∨512*l.size<head.length+b.length)):L0.length≤64:=by
 have h1:=(c.lens (t:=t) ok ht).2.2.2.2;have h2:=ok.n64;rw [List.length_append,List.length_singleton]at h1;omega
structure LgV(w:World)(gl:Nat)(h:Zn)(l:Wl)(lv sv:Value):Prop where
 dk:Dk w h l.D
 lb:Lb w gl h.g l.a l.n l.size lv sv l.last l.synced
 live:Rg3 w lv l.live
 str:Ub w 0 sv l.stream
def Lg(w:World)(gl:Nat)(h:Zn)(l:Wl):Prop:=∃lv sv,LgV w gl h l lv sv
section
variable {w w':World} {gl:Nat} {h h':Zn} {l:Wl} {lv sv:Value} {D':Dsk}
theorem LgV.later(g:LgV w gl h l lv sv)(hb:Below w.heap.size w w'):LgV w' gl h l lv sv:=⟨g.dk.later hb,g.lb.later hb,KSl.later g.live hb,g.str.later hb⟩
theorem LgV.stp(g:LgV w gl h l lv sv)(k:Dk w' h' D')(s:Stp h w h' w'):LgV w' gl h' {l with D:=D'} lv sv:=
 ⟨k,by rw [s.g];exact s.lb g.dk g.lb,KSl.same g.live (s.same (ks:= [some 223]) g.dk (by decide) (by decide) (by decide)) (by decide),s.ub g.dk g.str⟩
theorem Lg.later(g:Lg w gl h l)(hb:Below w.heap.size w w'):Lg w' gl h l:=by
 obtain⟨lv,sv,g⟩:=g;exact⟨lv,sv,g.later hb⟩
end
def lgKs:List (Option TypeId):=some 223::dkKs
theorem SameK.dk{w w':World}(h:SameK lgKs w w'):SameK dkKs w w':=h.less fun t ht=>List.mem_cons_of_mem _ ht
theorem LgV.sync{w w':World}{gl:Nat}{h h':Zn}{l:Wl}{lv sv:Value}(g:LgV w gl h l lv sv)(hd:Dk w' h' l.D.sync)(hl:Lb w' gl h.g l.a l.n l.size lv sv l.last l.last)(m:Mtp h gl w h' w'):LgV w' gl h' l.sync lv sv:=by
 have hs:SameK [some 223,some 5] w w':=m.sameL g.dk g.lb (by decide) (by decide) (by decide) (by decide);exact⟨hd,by rw [m.g];exact hl,KSl.same g.live hs (by decide),g.str.same hs (by decide)⟩
section
variable {w w7:World} {gl gL c8 B:Nat} {h h7:Zn} {l:Wl} {D7:Dsk} {lv sv v5:Value} {L0:List Sg} {s0:Sg} {S5:List UInt8} {q:Nat}
theorem zJU(G:LgV w7 gl h7 {l with D:=D7} lv sv)(hL:w7.ownsRow B 223 3 (.slice (some ⟨gL,0,none⟩) (L0.length+1) c8) (L0++ [s0]).length (z3H (L0++ [s0])))(hB:w.heap.size≤gL)(hs:Ub w7 0 v5 S5)(st:Stp h w h7 w7)
 {W8:World} (hW:w7.setCell ⟨gL,L0.length*3+2,none⟩ (.int .u64 (((s0.count+1)%U64:Nat):Int))=W8):
 Lb W8 gl h7.g l.a l.n l.size lv sv l.last l.synced∧LgV (((W8.setCell ⟨gl,4,none⟩ (.slice (some ⟨gL,0,none⟩) (L0.length+1) c8)).setCell ⟨gl,5,none⟩ v5).setCell ⟨gl,6,none⟩ (.int .u64 (q:Int))) gl h7 {l with D:=D7,live:=z46 (L0++ [s0]),stream:=S5,last:=q} (.slice (some ⟨gL,0,none⟩) (L0.length+1) c8) v5∧
  Mtp h gl w h7 (((W8.setCell ⟨gl,4,none⟩ (.slice (some ⟨gL,0,none⟩) (L0.length+1) c8)).setCell ⟨gl,5,none⟩ v5).setCell ⟨gl,6,none⟩ (.int .u64 (q:Int))):=by
 have hne:gl≠gL:=fun e=>z7x hL G.lb (by decide) (by rw [e];rfl)
 have hg:w7.grownBy (w7.setCell ⟨gL,L0.length*3+2,none⟩ (.int .u64 (((s0.count+1)%U64:Nat):Int))) (some gL):=by
  have h9:=hL;simp only [List.length_append,List.length_singleton]at h9;exact(World.ownsRow.stored h9 (L0.length*3+2) _).2
 have k8:SameK dkKs w7 W8:=by
  rw [←hW];exact SameK.grown hg fun z t hz ht=>by
   have:=z1E hL hz;rw [this]at ht;cases ht
   decide
 have b8:Lb W8 gl h7.g l.a l.n l.size lv sv l.last l.synced:=by rw [←hW];exact Blk.far (p:=⟨gL,L0.length*3+2,none⟩) G.lb hne _
 have o8:=zJO hL;rw [hW]at o8;have k9:SameK lgKs W8 (((W8.setCell ⟨gl,4,none⟩ (.slice (some ⟨gL,0,none⟩) (L0.length+1) c8)).setCell ⟨gl,5,none⟩ v5).setCell ⟨gl,6,none⟩ (.int .u64 (q:Int))):=
  ((SameK.setCell (p:=⟨gl,4,none⟩) b8 (by decide) _).trans (SameK.setCell (p:=⟨gl,5,none⟩) (b8.put 4 _) (by decide) _)).trans (SameK.setCell (p:=⟨gl,6,none⟩) ((b8.put 4 _).put 5 _) (by decide) _)
 have l9:(((W8.setCell ⟨gl,4,none⟩ (.slice (some ⟨gL,0,none⟩) (L0.length+1) c8)).setCell ⟨gl,5,none⟩ v5).setCell ⟨gl,6,none⟩ (.int .u64 (q:Int))).ownsRow B 223 3 (.slice (some ⟨gL,0,none⟩) (L0.length+1) c8) (z46 (L0++ [s0])).length (z3H (z46 (L0++ [s0]))):=z0q o8 k9 (by decide);refine⟨b8,⟨(G.dk.same k8).same k9.dk,((b8.put 4 _).put 5 _).put 6 _,KSl.of_own (by omega) l9,(hs.same k8 (by decide)).same k9 (by decide)⟩,st.g,?_,st.has⟩;rw [←hW];exact((((st.turn.mono (F':=fun b=>h.has b∨b=gl) fun b hb _=>Or.inl hb).setCell (p:=⟨gL,L0.length*3+2,none⟩) (.inr hB) _).setCell (p:=⟨gl,4,none⟩) (.inl (.inr rfl)) _).setCell (p:=⟨gl,5,none⟩) (.inl (.inr rfl)) _).setCell (p:=⟨gl,6,none⟩) (.inl (.inr rfl)) _
theorem zJ5(G:LgV w7 gl h7 {l with D:=D7} lv sv)(hL:w7.ownsRow B 223 3 (.slice (some ⟨gL,0,none⟩) (L0.length+1) c8) (L0++ [s0]).length (z3H (L0++ [s0])))(st:Stp h w h7 w7)
 {W8:World} (hW:w7.setCell ⟨gl,5,none⟩ (.slice none 0 0)=W8):
 LgV W8 gl h7 {l with D:=D7,stream:= []} lv (.slice none 0 0)∧Mtp h gl w h7 W8∧W8.cell? ⟨gL,L0.length*3,none⟩=some (.int .i64 (s0.at':Int)):=by
 subst hW;have k9:SameK lgKs w7 (w7.setCell ⟨gl,5,none⟩ (.slice none 0 0)):=SameK.setCell (p:=⟨gl,5,none⟩) G.lb (by decide) _;have o9:=z0q hL k9 (by decide);have e9:(L0++ [s0]).length=L0.length+1:=by simp
 rw [←e9]at o9;obtain⟨g',e,_,_,CE⟩:=z84 o9;injection e with e
 injection e with e
 subst e;exact⟨⟨G.dk.same k9.dk,G.lb.put 5 _,KSl.same G.live k9 (by decide),(Sl.nil:Bs _ _ _ [])⟩,⟨st.g,(st.turn.mono (F':=fun b=>h.has b∨b=gl) fun b hb _=>Or.inl hb).setCell (p:=⟨gl,5,none⟩) (.inl (.inr rfl)) _,st.has⟩,CE.out.1⟩
theorem Mtp.stp{w1 w2:World}{h1 h2:Zn}(m:Mtp h gl w h1 w1)(s:Stp h1 w1 h2 w2):Mtp h gl w h2 w2:=
 ⟨s.g.trans m.g,m.turn.trans s.turn fun b hb=>(m.has b hb).imp Or.inl id,fun b hb=>(s.has b hb).elim (m.has b) fun h9=> .inr (Nat.le_trans m.turn.size h9)⟩
theorem Mtp.mtp{w1 w2:World}{h1 h2:Zn}(m:Mtp h gl w h1 w1)(s:Mtp h1 gl w1 h2 w2):Mtp h gl w h2 w2:=
 ⟨s.g.trans m.g,m.turn.trans s.turn fun b hb=>hb.elim (fun h9=>(m.has b h9).imp Or.inl id) (fun h9=> .inl (.inr h9)),fun b hb=>(s.has b hb).elim (m.has b) fun h9=> .inr (Nat.le_trans m.turn.size h9)⟩
end
end
end Go.Proofs.YtdkobefpnjbgnaaGreatDoor
