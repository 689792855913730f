/- Part 9. -/
import Derived.Test.YthnlcbamjehpdaaGreatDoorViewCollectsJ7
import Derived.Test.YthnlcbamjehpdaaGreatDoorViewCollectsJ8
import Derived.Deep.Cut
import Derived.Deep.DeepCutAuto
namespace Go.Proofs.YthnlcbamjehpdaaGreatDoor
set_option linter.unusedVariables false
set_option maxHeartbeats 16000000
set_option maxRecDepth 100000
section
open Go Go.RowKit Tryz
theorem zHT:Elem prog 203 3 (.int .i64 0) 1 8:=Elem.mk' underlying203 (by kernel_rfl) rfl (by omega)
theorem z5g(Z:Pz)(P:Pgr)(x:Int)(S:Nat->Prop)(v0:Value)(b:List UInt8)(w:World)(hp:Pg w Z P)(hx:InI x)(hb:Bs S w v0 b)(hbl:b.length<=1099511627776):
 Calls prog 142 #[.pointer (some ⟨Z.g,0,none⟩),.int .i64 x,v0] w fun e w'=>e= .returned (.int .i64 (z65 x b:Int))/\z6Z Z (P.write x b) w w':=by
 obtain⟨A,c,rfl,_⟩:=hb.at;have HP:=zz hp;have HB:=zz hb;have hwy:Hid (z65 x b=if x<0∨90<=x then 131 else if 2048<b.length then 132 else 0):=rfl;have HWR:Hid (P.write x b=if z65 x b=0 then P.put x b else P):=rfl;clear hp hb;by_cases c1:x<0∨90<=x
 .have HW:Hid (z65 x b=131):=by rw [Hid,hwy.out,yB c1]
  have HE:Hid (P.write x b=P):=by rw [Hid,HWR.out,HW.out];rfl
  rcases Decidable.em (x<0)with h0|h0
  case' inl=>have hy:=h0
  case' inr=>have hy:90<=x:=c1.resolve_left h0
  all_goals
   clear c1;go_enter func142,ntmps142
   go_wp2_with fail
   go_ret
   exact⟨by rw [HW.out];rfl,by rw [HE.out];exact HP.out,Ptp.refl _ _⟩
 .have c11:¬x<0:=fun e=>c1 (.inl e)
  have c12:¬90<=x:=fun e=>c1 (.inr e)
  by_cases c2:2048<b.length
  .have HW:Hid (z65 x b=132):=by rw [Hid,hwy.out,yA c1,yB c2]
   have HE:Hid (P.write x b=P):=by rw [Hid,HWR.out,HW.out];rfl
   clear c1;go_enter func142,ntmps142
   go_wp2_with fail
   go_ret
   exact⟨by rw [HW.out];rfl,by rw [HE.out];exact HP.out,Ptp.refl _ _⟩
  .have HW:Hid (z65 x b=0):=by rw [Hid,hwy.out,yA c1,yA c2]
   have HE:Hid (P.write x b=P.put x b):=by rw [Hid,HWR.out,HW.out];rfl
   have d6:w.cell? ⟨Z.g,6,none⟩=some (.map (some Z.bw)):=HP.out.blk.cell 6;have gw:=HP.out.blk.lt;have HX0:Hid (0<=x):=by rw [Hid];omega
   have HX1:Hid (x<90):=by rw [Hid];omega
   have HXI:=zz hx;clear c1;go_enter func142,ntmps142
   go_upto_region 5 with(fail)
   go_region_law (refine zBl (w.alloc (.cells #[] 5)) (by first|exact⟨0,rfl⟩|exact⟨1,rfl⟩|exact⟨2,rfl⟩|exact⟨3,rfl⟩) rfl (.tmp 23) (.tmp 24) z0p rfl (Ob.made _ _ w.heap.size (y5 _) rfl) (Sl.alloc1 HB.out _) rfl rfl (by simp;omega) (by simp) ?_;intro A3 k3 c3 w3 hown3 hg3;have q3:Below w.heap.size w w3:=z01 ((y7 w.heap.size w).alloc (y5 _) (.cells #[] 5)) (Ob.made _ _ w.heap.size (y5 _) rfl) hg3 (by simp);have p3:=HP.out.later q3;have d6:w3.cell? ⟨Z.g,6,none⟩=some (.map (some Z.bw)):=p3.blk.cell 6;have hu:=(Ub.of_own hown3).lower (yU _);rw [yz]at hu;obtain rfl:=hu.len;obtain⟨w4,r4,h4,t4⟩:=p3.wr.put HX0.out HX1.out hu;obtain⟨p4,s4⟩:=p3.putW h4 t4;have d7:w4.cell? ⟨Z.g,7,none⟩=some (.map (some Z.bg)):=p4.blk.cell 7;obtain⟨w5,r5,h5,t5⟩:=p4.gn.del (a:=x) HXI.out 0;obtain⟨p5,s5⟩:=p4.putG h5 t5;have FIN:Hid (z6Z Z (P.put x b) w w5):=⟨p5,(Ptp.below q3).trans (s4.trans s5)⟩;clear hown3 hg3 q3 p3 hu h4 t4 p4 s4 h5 t5 p5 s5)
   all_goals
    go_wp2_with fail
    go_ret
    exact⟨by rw [HW.out];rfl,by rw [HE.out];exact FIN.out⟩
theorem z8U(P:Pgr)(i:Nat):(List.range (i+1)).filter (fun j:Nat=>P.has (j:Int))=(List.range i).filter (fun j:Nat=>P.has (j:Int))++if P.has (i:Int)then [i]else []:=by
 rw [Zb,List.filter_append];cases h:P.has (i:Int)<;>simp [h]
def zFh(P:Pgr)(i:Nat):List Nat:=(List.range i).filter fun j:Nat=>P.has (j:Int)
theorem zJt(P:Pgr)(i:Nat):(zFh P i).length<=i:=by
 have:=YI (fun j:Nat=>P.has (j:Int)) (List.range i)
 rwa [ZJ]at this
theorem zHm{P:Pgr}{i:Nat}(h:P.has (i:Int)=true):zFh P (i+1)=zFh P i++ [i]:=by unfold zFh;rw [z8U,yB h]
theorem zJu{P:Pgr}{i:Nat}(h:P.has (i:Int)=false):zFh P (i+1)=zFh P i:=by unfold zFh;rw [z8U,h];simp
theorem z3P(Z:Pz)(P:Pgr)(w:World)(hp:Pg w Z P):
 Calls prog 104 #[.pointer (some ⟨Z.g,0,none⟩)] w fun e w'=>∃v,e= .returned v/\Ow 3 w' w.heap.size v (il P.pages)/\Below w.heap.size w w':=by
 have HP:=zz hp;clear hp;go_enter func104,ntmps104
 go_wp2_with fail
 go_loopw [3,5] (fun tv iv wr=>∃ (i:Nat) (A:Option Addr) (k c:Nat),iv= .int .i64 (i:Int)/\i<=90/\tv= .slice A k c/\Ow 3 wr w.heap.size (.slice A k c) (il (zFh P i))/\Below w.heap.size w wr) (fun _ iv _=>90-(intOf iv).toNat)
 case atStart=>exact⟨0,none,0,0,rfl,by omega,rfl,Ow.nil _ _ _,y7 _ _⟩
 case round=>
  obtain⟨i,A,k,c,rfl,hi,rfl,hown,hbl⟩:=hrel;have hsz:=hbl.size;have HO:=zz hown;clear hown;by_cases hil:i<90
  .have htl:=zJt P i;go_wp2_with fail
   refine(z4R Z P (i:Int) wr (HP.out.later hbl) (by unfold InI;omega)).mono ?_;rintro e w2 ⟨rfl,q2⟩;have hb2:=hbl.trans (q2.mono hsz);have hsz2:=hb2.size;have HO2:=zz (Ow.later HO.out q2);clear q2 HO hbl;cases hgt:P.has (i:Int)with
   |true=>
    have HT:=zz (zHm hgt);clear hgt;go_wp2_with (at_builtin;go_loud (refine z0A _ rfl (.tmp 11) (.tmp 13) zHT rfl (Ow.later HO2.out ((y7 _ _).alloc (y5 _) _)) (Sl.new1 (S:=fun _=>True) _ _ _ (by simp) trivial) rfl rfl (by intro y hy;obtain rfl:=yJ.1 hy;rfl) (by simp [z8M,maxLen];omega) (by simp [z8M];omega) (by simp;omega) ?_);intro A1 k1 c1 w1 hown1 hg1 hat1)
    have q1:Below w.heap.size w w1:=z01 (hb2.alloc hsz2 _) (Ow.later HO2.out ((y7 _ _).alloc (y5 _) _)) hg1 (by simp;omega);have hO1:Ow 3 w1 w.heap.size (.slice A1 k1 c1) (il (zFh P (i+1))):=by
     rw [HT.out];unfold Ow;rw [z8M,y6];have e1:il (zFh P i++ [i])=il (zFh P i)++ [.int .i64 (i:Int)]:=by simp [il]
     rw [e1];simpa [z8M]using hown1
    clear hown1 hg1 hat1;go_roundw
    case rel=>exact⟨i+1,A1,k1,c1,by go_num,by omega,rfl,hO1,q1⟩
    case measure=>simp [intOf];omega
   |false=>
    have HO1:=HO2.out;rw [<-zJu hgt]at HO1;clear hgt;go_wp2_with fail
    go_roundw
    case rel=>exact⟨i+1,A,k,c,by go_num,by omega,rfl,HO1,hb2⟩
    case measure=>simp [intOf];omega
  .obtain rfl:i=90:=by omega
   go_wp2_with fail
   go_ret
   exact⟨_,rfl,HO.out,hbl⟩
theorem zAC{P:Pgr}{i:Nat}(h:∀j,j<i->P.has ((j:Nat):Int)=true)(hi:90<=i):P.least=none:=by
 unfold Pgr.least;rw [Yk];intro j hj;rw [yt]at hj;simp [h j (by omega)]
theorem zAD{P:Pgr}{i:Nat}(h:∀j,j<i->P.has ((j:Nat):Int)=true)(hi:i<90)(h0:P.has (i:Int)=false):P.least=some i:=by
 unfold Pgr.least;rw [QN];refine⟨by simp [h0],List.range i,List.range' (i+1) (90-(i+1)),?_,fun j hj=> ?_⟩
 .rw [List.range_eq_range',List.range_eq_range',show 90=i+((90-(i+1))+1) by omega,<-List.range'_append_1,List.range'_succ];simp;omega
 .rw [yt]at hj;simp [h j hj]
theorem z8V(Z:Pz)(P:Pgr)(S:Nat->Prop)(v0:Value)(b:List UInt8)(w:World)(hp:Pg w Z P)(hb:Bs S w v0 b)(hbl:b.length<=1099511627776):
 Calls prog 194 #[.pointer (some ⟨Z.g,0,none⟩),v0] w fun e w'=>e= .returned (.tuple #[.int .i64 ((P.alloc b).2.1:Int),.int .i64 ((P.alloc b).2.2:Int)])/\z6Z Z (P.alloc b).1 w w':=by
 obtain⟨A,c,rfl,_⟩:=hb.at;have HP:=zz hp;have HB:=zz hb;have HAL:Hid (P.alloc b=if 2048<b.length then(P,0,132)else match P.least with|some i=>(P.put (i:Int) b,i,0)|none=>(P,0,133)):=rfl;clear hp hb;by_cases c2:2048<b.length
 .have HA:Hid (P.alloc b=(P,0,132)):=by rw [Hid,HAL.out,yB c2]
  go_enter func194,ntmps194
  go_wp2_with fail
  go_ret2
  rw [HA.out];exact⟨rfl,HP.out,Ptp.refl _ _⟩
 .go_enter func194,ntmps194
  go_wp2_with fail
  go_loopw [10] (fun iv wr=>∃i:Nat,iv= .int .i64 (i:Int)/\i<=90/\Hid (∀j,j<i->P.has ((j:Nat):Int)=true)/\Below w.heap.size w wr) (fun iv _=>90-(intOf iv).toNat)
  case atStart=>exact⟨0,rfl,by omega,fun j hj=>absurd hj (by omega),y7 _ _⟩
  case round=>
   obtain⟨i,rfl,hi,hall,hbw⟩:=hrel;have hsz:=hbw.size;by_cases hil:i<90
   .go_wp2_with fail
    refine(z4R Z P (i:Int) wr (HP.out.later hbw) (by unfold InI;omega)).mono ?_;rintro e w2 ⟨rfl,q2⟩;have hb2:=hbw.trans (q2.mono hsz);clear q2 hbw;cases hgt:P.has (i:Int)with
    |true=>
     have HA2:Hid (∀j,j<i+1->P.has ((j:Nat):Int)=true):=fun j hj=>by
      rcases Y5 j i with h|h
      .exact hall.out j h
      .obtain rfl:j=i:=by omega
       exact hgt
     clear hgt;go_wp2_with fail
     go_roundw
     case rel=>exact⟨i+1,by go_num,by omega,HA2,hb2⟩
     case measure=>simp [intOf];omega
    |false=>
     have HA:Hid (P.alloc b=(P.put (i:Int) b,i,0)):=by rw [Hid,HAL.out,yA c2,zAD hall.out hil hgt]
     have HW:Hid (z65 (i:Int) b=0):=by unfold z65;rw [Hid,yA (by omega),yA c2]
     have HE:Hid (P.write (i:Int) b=P.put (i:Int) b):=by unfold Pgr.write;rw [Hid,HW.out];rfl
     clear hgt;go_wp2_with fail
     refine(z5g Z P (i:Int) _ _ b w2 (HP.out.later hb2) (by unfold InI;omega) (Bs.later HB.out hb2) hbl).mono ?_;rintro e w3 ⟨rfl,hd⟩;rw [HW.out];rw [HE.out]at hd;go_wp2_with fail
     go_ret2
     rw [HA.out];exact⟨rfl,hd.1,(Ptp.below hb2).trans hd.2⟩
   .have HA:Hid (P.alloc b=(P,0,133)):=by rw [Hid,HAL.out,yA c2,zAC hall.out (by omega)]
    go_wp2_with fail
    go_ret2
    rw [HA.out];exact⟨rfl,HP.out.later hbw,Ptp.below hbw⟩
end
end Go.Proofs.YthnlcbamjehpdaaGreatDoor
