/- What MoveGets needs besides. -/
import Derived.Test.YtdkobefpnjbgnaaGreatDoorMovePutsJ1
import Derived.Test.YtdkobefpnjbgnaaGreatDoorMovePutsJ2
import Derived.Test.YtdkobefpnjbgnaaGreatDoorMovePutsJ3
import Derived.Test.YtdkobefpnjbgnaaGreatDoorMovePutsJ4
import Derived.Test.YtdkobefpnjbgnaaGreatDoorMovePutsJ5
import Derived.Test.YtdkobefpnjbgnaaGreatDoorMovePutsJ6
import Derived.Test.YtdkobefpnjbgnaaGreatDoorMovePutsJ7
import Derived.Test.YtdkobefpnjbgnaaGreatDoorMovePutsJ8
import Derived.Test.YtdkobefpnjbgnaaGreatDoorMovePutsJ9
import Derived.Test.YtdkobefpnjbgnaaGreatDoorMovePutsJ10
import Derived.Test.YtdkobefpnjbgnaaGreatDoorMovePutsJ11
import Derived.Test.YtdkobefpnjbgnaaGreatDoorMovePutsJ12
import Derived.Test.YtdkobefpnjbgnaaGreatDoorMovePutsJ13
import Derived.Test.YtdkobefpnjbgnaaGreatDoorMovePutsJ14
import Derived.Test.YtdkobefpnjbgnaaGreatDoorMovePutsJ15
import Derived.Test.YtdkobefpnjbgnaaGreatDoorMovePutsJ16
import Derived.Test.YtdkobefpnjbgnaaGreatDoorMovePutsJ17
import Derived.Test.YtdkobefpnjbgnaaGreatDoorMovePutsJ18
import Derived.Test.YtdkobefpnjbgnaaGreatDoorMovePutsJ19
import Derived.Test.YtdkobefpnjbgnaaGreatDoorMovePutsJ20
import Derived.Test.YtdkobefpnjbgnaaGreatDoorMovePutsJ21
import Derived.Test.YtdkobefpnjbgnaaGreatDoorMovePutsJ22
import Derived.Test.YtdkobefpnjbgnaaGreatDoorMovePutsJ23
import Derived.Test.YtdkobefpnjbgnaaGreatDoorMovePutsJ24
import Derived.Test.YtdkobefpnjbgnaaGreatDoorMovePutsJ25
import Derived.Test.YtdkobefpnjbgnaaGreatDoorMovePutsJ26
import Derived.Test.YtdkobefpnjbgnaaGreatDoorMovePutsJ27
import Derived.Test.YtdkobefpnjbgnaaGreatDoorMovePutsJ28
import Derived.Test.YtdkobefpnjbgnaaGreatDoorMovePutsJ29
import Derived.Test.YtdkobefpnjbgnaaGreatDoorMovePutsJ30
import Derived.Test.YtdkobefpnjbgnaaGreatDoorMovePutsJ31
import Derived.Test.YtdkobefpnjbgnaaGreatDoorMovePutsJ32
import Derived.Test.YtdkobefpnjbgnaaGreatDoorMovePutsJ33
import Derived.Test.YtdkobefpnjbgnaaGreatDoorMovePutsJ34
import Derived.Test.YtdkobefpnjbgnaaGreatDoorMovePutsJ35
import Derived.Test.YtdkobefpnjbgnaaGreatDoorMovePutsJ36
import Derived.Test.YtdkobefpnjbgnaaGreatDoorMovePutsJ37
import Derived.Test.YtdkobefpnjbgnaaGreatDoorMovePutsJ38
import Derived.Test.YtdkobefpnjbgnaaGreatDoorMovePutsJ39
import Derived.Test.YtdkobefpnjbgnaaGreatDoorMovePutsJ40
import Derived.BigQuiet
import Derived.Deep.QuietTactic
import Derived.RegionTactic
import Derived.Test.YtdkobefpnjbgnaaGreatDoorRows
import Derived.ProofKit
import Derived.OpenShut
import Derived.ChangeMaps5
import Derived.Deep.DeepHandedRow
import Derived.Lib.LaidTab
import Derived.Lib.SmallJoins
namespace Go.Proofs.YtdkobefpnjbgnaaGreatDoor
set_option linter.unusedVariables false
set_option maxHeartbeats 16000000
set_option maxRecDepth 100000
section
open Go Go.RowKit
def refVal:Except Nat (Nat×Nat)→Ending
 | .ok (v,n)=> .returned (.tuple #[.int .u64 (v:Int),.int .i64 (n:Int),.int .i64 0])
 | .error e=> .returned (.tuple #[.int .u64 0,.int .i64 0,.int .i64 (e:Int)])
theorem refGetVar_any(l:List UInt8)(w:World)(hl:l.length≤1099511627776):
 Calls Tryz.prog 78 #[.string (st l)] w fun e w'=>e=refVal (z0S l)∧w=w':=by
 go_enter Tryz.func78,Tryz.ntmps78
 go_wp2_with fail
 go_loop [5,6,7] (fun av pv iv=>∃ (i a p:Nat),iv= .int .i64 (i:Int)∧av= .int .u64 (a:Int)∧pv= .int .u64 (p:Int)∧i≤l.length∧i≤9∧Hid (a<128 ^ i)∧Hid (p=128 ^ i)∧p≤9223372036854775808∧a≤9223372036854775808∧Hid (z7C i a (l.drop i)=z0S l)) (fun _ _ iv=>l.length-(intOf iv).toNat)
 case atStart=>exact⟨0,0,1,rfl,rfl,rfl,by omega,by omega,by simp [Hid],rfl,by omega,by omega,by simp [z0S,Hid]⟩
 case round=>
  obtain⟨i,a,p,rfl,rfl,rfl,hi,hi9,HA2,hp,hp2,ha2,hg⟩:=hrel;by_cases hil:i<l.length
  ·have HG:=zz (zIh hil hg.out);clear hg;obtain⟨x,hx⟩:∃x,x=l[i].toNat:=⟨_,rfl⟩;have hx256:x<256:=hx▸l[i].toNat_lt;have HX:=zz hx;have hxi:(l[i].toNat:Int)=(x:Int):=by rw [hx]
   rw [←hx]at HG;clear hx;by_cases h1:i=9∧1<x
   ·have t1:(i:Int)=9:=by omega
    have t1':((i:Int)==9)=true:=by simp;omega
    have t2:(1:Int)<(x:Int):=by omega
    have hr:z0S l= .error 12:=by
     have h:=HG.out;rw [if_pos (.inl h1)]at h;exact h.symm
    have HR:=zz hr;clear h1 hr t1;go_wp2_with fail
    go_ret3
    exact⟨by rw [HR.out];rfl,rfl⟩
   ·by_cases h2:0<i∧x=0
    ·have t1:((i:Int)==9)=false∨((i:Int)==9)=true:=by cases ((i:Int)==9)<;>simp
     have t2:((x:Int)==0)=true:=by simp;omega
     have t3:¬ (1:Int)<(x:Int):=by omega
     have t0:(0:Int)<(i:Int):=by omega
     have hr:z0S l= .error 12:=by
      have h:=HG.out;rw [if_pos (.inr h2)]at h;exact h.symm
     have HR:=zz hr;clear h1 h2 hr;rcases t1 with t1|t1
     all_goals
      go_wp2_with fail
      go_ret3
      exact⟨by rw [HR.out];rfl,rfl⟩
    ·obtain⟨t,ht⟩:∃t,t=x%128*p:=⟨_,rfl⟩;have htp:t=x%128*128 ^ i:=by rw [ht,hp.out]
     have hb:a+t<U64∧(x<128∨a+t<128 ^ (i+1)):=by
      have hA:=HA2.out;by_cases h9:i=9
      ·have hm:x%128≤1∨128≤x:=by omega
       rcases hm with hm|hm
       ·have h3:x%128*128 ^ i≤1*128 ^ i:=Nat.mul_le_mul_right _ hm;subst h9;unfold U64;omega
       ·omega
      ·have h3:x%128*128 ^ i≤127*128 ^ i:=Nat.mul_le_mul_right _ (by omega);have h4:(128:Nat) ^ i≤128 ^ 8:=Nat.pow_le_pow_right (by omega) (by omega);rw [Nat.pow_succ];unfold U64;omega
     obtain⟨hb1,hb2⟩:=hb;have hbi:(a:Int)+(t:Int)≤18446744073709551615:=by unfold U64 at hb1;omega
     have e0:IntKind.u64.wrap ((x:Int)%128*(p:Int))=(t:Int):=by
      have h6:((x:Int)%128)=((x%128:Nat):Int):=by omega
      rw [h6,ht,Int.natCast_mul];exact z0l (by rw [←Int.natCast_mul,←ht];omega) (by rw [←Int.natCast_mul,←ht];omega)
     by_cases h3:x<128
     ·have hr:z0S l= .ok (a+t,i+1):=by
       have h:=HG.out;rw [if_neg (by omega),if_pos h3]at h;rw [←h,htp,show x%128=x from by omega]
      have HR:=zz hr;have t4:(x:Int)<128:=by omega
      clear hr ht htp hb1 hb2;have hcase:((i:Int)==9)=true∧¬ (1:Int)<(x:Int)∧(0:Int)<(i:Int)∧((x:Int)==0)=false∨((i:Int)==9)=false∧(0:Int)<(i:Int)∧((x:Int)==0)=false∨((i:Int)==9)=false∧¬ (0:Int)<(i:Int):=by
       by_cases h9:i=9
       ·exact .inl ⟨by simp;omega,by omega,by omega,by simp;omega⟩
       ·by_cases h0:0<i
        ·exact .inr (.inl ⟨by simp;omega,by omega,by simp;omega⟩)
        ·exact .inr (.inr ⟨by simp;omega,by omega⟩)
      clear h1 h2;rcases hcase with⟨t1,t2,t3,t5⟩|⟨t1,t2,t3⟩|⟨t1,t2⟩
      all_goals
       go_wp2_with fail
       go_ret3
       exact⟨by rw [HR.out];rfl,rfl⟩
     ·have hr:z7C (i+1) (a+t) (l.drop (i+1))=z0S l:=by
       have h:=HG.out;rw [if_neg (by omega),if_neg h3]at h;rw [htp];exact h
      have h9:¬i=9:=by omega
      have h8:(128:Nat) ^ (i+1)≤128 ^ 9:=Nat.pow_le_pow_right (by omega) (by omega);have hpp:=hp.out;have hp3:p*128=128 ^ (i+1):=by rw [Nat.pow_succ,hpp]
      have HR:=zz hr;have HP:=zz hp3;have HB:=zz (hb2.resolve_left h3);have hq:(p:Int)*128≤9223372036854775808:=by omega
      have ha3:a+t≤9223372036854775808:=by have:=HB.out;omega
      have t4:¬ (x:Int)<128:=by omega
      have t1:((i:Int)==9)=false:=by simp;omega
      have t6:((x:Int)==0)=false:=by simp;omega
      clear hr ht htp hb1 hb2 h8 hpp hp3 h1 h2 hp;by_cases h0:0<i
      all_goals
       go_wp2_with fail
       go_round
       case rel=>exact⟨i+1,a+t,p*128,by go_num,by go_num,by go_num,by omega,by omega,HB,HP,by omega,ha3,HR⟩
       case measure=>simp [intOf];omega
  ·have h:=zHl hil hg.out;have HO:=zz h;clear h hg;go_wp2_with fail
   go_ret3
   exact⟨by rw [HO.out];rfl,rfl⟩
theorem refNum_any(l:List UInt8)(w:World)(hl:l.length≤1099511627776):
 Calls Tryz.prog 46 #[.string (st l)] w fun e w'=>e= .returned (.tuple #[.int .u64 ((numV l).1:Int),.string (st (numV l).2.1),.int .i64 ((numV l).2.2:Int)])∧Below w.heap.size w w':=by
 cases hg:z0S l with
 |error er=>
  have HG:=zz hg;have HN:Hid (numV l=(0,l,z8d er)):=by unfold numV;rw [hg];rfl
  have he:er=10∨er=12:=z6t l 0 0 er hg;clear hg;rcases he with rfl|rfl
  all_goals
   go_enter Tryz.func46,Tryz.ntmps46
   go_wp2_with fail
   refine(refGetVar_any l w hl).mono ?_;rintro e w1 ⟨rfl,rfl⟩;rw [HG.out];simp only [refVal];go_wp2_with fail
   go_ret3
   rw [HN.out];exact⟨rfl,Below.refl _ _⟩
 |ok xn=>
  obtain⟨x,n⟩:=xn;have HG:=zz hg;have HN:Hid (numV l=(x,l.drop n,0)):=by unfold numV;rw [hg];rfl
  have hdt:(l.drop n).take (l.length-n)=l.drop n:=List.take_of_length_le (by simp);obtain⟨_,hn1,hn2⟩:=z1X hg;clear hg;go_enter Tryz.func46,Tryz.ntmps46
  go_wp2_with fail
  refine(refGetVar_any l w hl).mono ?_;rintro e w1 ⟨rfl,rfl⟩;rw [HG.out];simp only [refVal];go_wp2_with fail
  go_quiet (fail)
  go_wp2_with fail
  go_ret3
  rw [HN.out];exact⟨rfl,below_drewN (Below.refl _ _) _⟩
theorem fldTy:z1D Tryz.prog 91 5:=⟨⟨_,Tryz.underlying91⟩,by kernel_rfl⟩
def fldC(s:List UInt8):Array Value:= #[.int .i64 1,.int .u64 0,.string (st s),.bool false,.int .i64 0]
def takeV(x:List UInt8×List UInt8×Nat):Value:= .tuple #[.agg (fldC x.1),.string (st x.2.1),.int .i64 (x.2.2:Int)]
theorem rdText_num(l:List UInt8):z0H l 0=if(numV l).2.2≠0 then([],l,(numV l).2.2)else if 65536<(numV l).1 then([],l,32)else if(numV l).2.1.length<(numV l).1 then([],l,30)
 else((numV l).2.1.take (numV l).1,(numV l).2.1.drop (numV l).1,0):=by
 unfold z0H numV;rw [if_neg (by simp)];cases hg:z0S l with
 |error er=>rw [if_pos (by simpa using (z3v hg).2)];rfl
 |ok xn=>obtain⟨x,n⟩:=xn;rw [if_neg (by simp)]
theorem Blk.put5r{w:World}{g:Nat}{t:TypeId}{a b c d e:Value}(h:Blk w g t #[a,b,c,d,e])(x y z u v:Value):
 Blk (((((w.setCell ⟨g,0,none⟩ x).setCell ⟨g,1,none⟩ y).setCell ⟨g,2,none⟩ z).setCell ⟨g,3,none⟩ u).setCell ⟨g,4,none⟩ v) g t #[x,y,z,u,v]:=((((h.put 0 x).put 1 y).put 2 z).put 3 u).put 4 v
theorem below_put5r{B:Nat}{w0 w:World}{g:Nat}(h:Below B w0 w)(hg:B≤g)(x y z u v:Value):
 Below B w0 (((((w.setCell ⟨g,0,none⟩ x).setCell ⟨g,1,none⟩ y).setCell ⟨g,2,none⟩ z).setCell ⟨g,3,none⟩ u).setCell ⟨g,4,none⟩ v):=((((h.setCell hg _).setCell hg _).setCell hg _).setCell hg _).setCell hg _
theorem refTake_any(l:List UInt8)(w:World)(hl:l.length≤1099511627776):
 Calls Tryz.prog 47 #[.int .i64 1,.int .i64 0,.string (st l)] w fun e w'=>e= .returned (takeV (z0H l 0))∧Below w.heap.size w w':=by
 have hle:=zJG l;have hb0:=(Blk.new w 91 #[.int .i64 0,.int .u64 0,.string ⟨#[]⟩,.bool false,.int .i64 0]).alloc (.cells #[.int .i64 1,.int .u64 0,.string ⟨#[]⟩,.bool false,.int .i64 0] 91);have hb1:=Blk.new (w.alloc (.cells #[.int .i64 0,.int .u64 0,.string ⟨#[]⟩,.bool false,.int .i64 0] 91)) 91 #[.int .i64 1,.int .u64 0,.string ⟨#[]⟩,.bool false,.int .i64 0];rw [show(w.alloc (.cells #[.int .i64 0,.int .u64 0,.string ⟨#[]⟩,.bool false,.int .i64 0] 91)).heap.size=w.heap.size+1 by simp]at hb1;have q0:Below w.heap.size w ((w.alloc (.cells #[.int .i64 0,.int .u64 0,.string ⟨#[]⟩,.bool false,.int .i64 0] 91)).alloc (.cells #[.int .i64 1,.int .u64 0,.string ⟨#[]⟩,.bool false,.int .i64 0] 91)):=((Below.refl _ _).alloc (Nat.le_refl _) _).alloc (by simp) _;go_enter Tryz.func47,Tryz.ntmps47
 go_wp2_with fail
 generalize hG:((w.alloc (.cells #[.int .i64 0,.int .u64 0,.string ⟨#[]⟩,.bool false,.int .i64 0] 91)).alloc (.cells #[.int .i64 1,.int .u64 0,.string ⟨#[]⟩,.bool false,.int .i64 0] 91))=W at*;refine(refNum_any l _ hl).mono ?_;rintro e w1 ⟨rfl,hbl1⟩;have hb0':=hb0.later hbl1;have hb1':=hb1.later hbl1;have q1:=q0.trans (hbl1.mono q0.size);have d0:=hb1'.cell 0;have c0:=hb0'.cell 0;have f0:=hb0'.free 0;have g0:=hb1'.free 0;have d1:=hb1'.cell 1;have c1:=hb0'.cell 1;have f1:=hb0'.free 1;have g1:=hb1'.free 1;have d2:=hb1'.cell 2;have c2:=hb0'.cell 2;have f2:=hb0'.free 2;have g2:=hb1'.free 2;have d3:=hb1'.cell 3;have c3:=hb0'.cell 3;have f3:=hb0'.free 3;have g3:=hb1'.free 3;have d4:=hb1'.cell 4;have c4:=hb0'.cell 4;have f4:=hb0'.free 4;have g4:=hb1'.free 4;simp at d0 d1 d2 d3 d4 c0 c1 c2 c3 c4;have HT:=zz (rdText_num l);have HB:=zz hb0';clear hb0 hb1 hb0' hb1' hbl1 q0;clear hG;obtain⟨X,hX⟩:∃X,numV l=X:=⟨_,rfl⟩;rw [hX]at HT hle ⊢;obtain⟨x,r,er⟩:=X;obtain⟨hx64,hrl,her⟩:=hle;simp only at hx64 hrl her;simp only;clear hX;by_cases he:er=0
 ·subst he;by_cases hx:65536<x
  ·have HR:Hid (z0H l 0=([],l,32)):=by have:=HT.out;simp only at this;rw [Hid,this,if_neg (by simp),if_pos hx]
   go_wp2_with fail
   exact bodyPost_ret (z0x rfl _ _ w.heap.size rfl (HB.out.put5r _ _ _ _ _) fldTy) rfl ⟨by rw [HR.out];rfl,below_put5r q1 (Nat.le_refl _) _ _ _ _ _⟩
  ·by_cases hr:r.length<x
   ·have HR:Hid (z0H l 0=([],l,30)):=by have:=HT.out;simp only at this;rw [Hid,this,if_neg (by simp),if_neg hx,if_pos hr]
    go_wp2_with fail
    exact bodyPost_ret (z0x rfl _ _ w.heap.size rfl (HB.out.put5r _ _ _ _ _) fldTy) rfl ⟨by rw [HR.out];rfl,below_put5r q1 (Nat.le_refl _) _ _ _ _ _⟩
   ·have HR:Hid (z0H l 0=(r.take x,r.drop x,0)):=by have:=HT.out;simp only at this;rw [Hid,this,if_neg (by simp),if_neg hx,if_neg hr]
    have hdt:(r.drop x).take (r.length-x)=r.drop x:=List.take_of_length_le (by simp);go_wp2_with fail
    go_region
    all_goals
     go_wp2_with fail
     exact bodyPost_ret (z0x rfl _ _ w.heap.size rfl (Blk.drew ((HB.out.far (p:=⟨w.heap.size+1,2,none⟩) (by simp) _).put5r _ _ _ _ _)) fldTy) rfl ⟨by rw [HR.out];rfl,(below_put5r (q1.setCell (by simp) _) (Nat.le_refl _) _ _ _ _ _).drew⟩
 ·have HR:Hid (z0H l 0=([],l,er)):=by have:=HT.out;simp only at this;rw [Hid,this,if_pos he]
  have t1:((er:Int) != 0)=true:=by rw [bne_iff_ne];omega
  clear he;go_wp2_with fail
  exact bodyPost_ret (z0x rfl _ _ w.heap.size rfl (HB.out.put5r _ _ _ _ _) fldTy) rfl ⟨by rw [HR.out];rfl,below_put5r q1 (Nat.le_refl _) _ _ _ _ _⟩
def fldF(b:Bool):Array Value:= #[.int .i64 2,.int .u64 0,.string (st []),.bool b,.int .i64 0]
def takeF(x:Bool×List UInt8×Nat):Value:= .tuple #[.agg (fldF x.1),.string (st x.2.1),.int .i64 (x.2.2:Int)]
theorem refTakeF_any(l:List UInt8)(w:World)(hl:l.length≤1099511627776):
 Calls Tryz.prog 47 #[.int .i64 2,.int .i64 0,.string (st l)] w fun e w'=>e= .returned (takeF (z1C l 0))∧Below w.heap.size w w':=by
 have hb0:=(Blk.new w 91 #[.int .i64 0,.int .u64 0,.string ⟨#[]⟩,.bool false,.int .i64 0]).alloc (.cells #[.int .i64 2,.int .u64 0,.string ⟨#[]⟩,.bool false,.int .i64 0] 91);have hb1:=Blk.new (w.alloc (.cells #[.int .i64 0,.int .u64 0,.string ⟨#[]⟩,.bool false,.int .i64 0] 91)) 91 #[.int .i64 2,.int .u64 0,.string ⟨#[]⟩,.bool false,.int .i64 0];rw [show(w.alloc (.cells #[.int .i64 0,.int .u64 0,.string ⟨#[]⟩,.bool false,.int .i64 0] 91)).heap.size=w.heap.size+1 by simp]at hb1;have q0:Below w.heap.size w ((w.alloc (.cells #[.int .i64 0,.int .u64 0,.string ⟨#[]⟩,.bool false,.int .i64 0] 91)).alloc (.cells #[.int .i64 2,.int .u64 0,.string ⟨#[]⟩,.bool false,.int .i64 0] 91)):=((Below.refl _ _).alloc (Nat.le_refl _) _).alloc (by simp) _;have n1:¬w.heap.size=w.heap.size+1:=by omega
 have n2:¬w.heap.size+1=w.heap.size:=by omega
 have HB:=zz hb0;rcases l with _|⟨b,r⟩
 ·have HV:Hid (z1C [] 0=(false,[],30)):=rfl;go_enter Tryz.func47,Tryz.ntmps47
  go_wp2_with fail
  exact bodyPost_ret (z0x rfl _ _ w.heap.size rfl ((Blk.new _ _ _).alloc _) fldTy) rfl ⟨by rw [HV.out];rfl,((Below.refl _ _).alloc (Nat.le_refl _) _).alloc (by simp) _⟩
 ·have hem:(b::r).isEmpty=false:=rfl;have hi0:(st (b::r))[(0:Nat)]? =some b:=rfl;by_cases h1:1<b.toNat
  ·have HV:Hid (z1C (b::r) 0=(false,b::r,33)):=by unfold z1C;rw [Hid,if_neg (by simp)];simp only;rw [if_pos h1]
   have t1:(1:Int)<(b.toNat:Int):=by omega
   go_enter Tryz.func47,Tryz.ntmps47
   go_wp2_with fail
   exact bodyPost_ret (z0x rfl _ _ w.heap.size rfl ((Blk.new _ _ _).alloc _) fldTy) rfl ⟨by rw [HV.out];rfl,((Below.refl _ _).alloc (Nat.le_refl _) _).alloc (by simp) _⟩
  ·have HV:Hid (z1C (b::r) 0=(b.toNat==1,r,0)):=by unfold z1C;rw [Hid,if_neg (by simp)];simp only;rw [if_neg h1]
   have t1:¬ (1:Int)<(b.toNat:Int):=by omega
   obtain⟨Y,hY⟩:∃Y,(b.toNat==1)=Y:=⟨_,rfl⟩;have t2:((b.toNat:Int)==1)=Y:=by rw [←hY];rw [Bool.eq_iff_iff];simp only [beq_iff_eq];omega
   rw [hY]at HV;clear hY;go_enter Tryz.func47,Tryz.ntmps47
   go_wp2_with fail
   go_region
   all_goals
    go_wp2_with fail
    exact bodyPost_ret (z0x rfl _ _ w.heap.size rfl ((Blk.new _ _ _).alloc _).drew fldTy) rfl ⟨by rw [HV.out];rfl,(((Below.refl _ _).alloc (Nat.le_refl _) _).alloc (by simp) _).drew⟩
theorem rdCount_num(l:List UInt8)(m:Int):z0I l 0 m=if(numV l).2.2≠0 then(0,l,(numV l).2.2)else if m<((numV l).1:Int)then(0,l,32)else((numV l).1,(numV l).2.1,0):=by
 unfold z0I numV;rw [if_neg (by simp)];cases hg:z0S l with
 |error er=>rw [if_pos (by simpa using (z3v hg).2)]
 |ok xn=>obtain⟨x,n⟩:=xn;rw [if_neg (by simp)]
end
section
open Go
def verV(s:List UInt8):Vsn×List UInt8×Bool:=
 let n:=numV s
 let f:=z1C n.2.1 0
 if n.2.2≠0∨f.2.2≠0 then(⟨n.1,[],f.1⟩,s,false)else if f.1 then(⟨n.1,[],true⟩,f.2.1,true)else
  let t:=z0H f.2.1 0
  (⟨n.1,t.1,false⟩,t.2.1,t.2.2==0)
def versV:Nat→List UInt8→List Vsn→Option (List Vsn×List UInt8)
 |0,s,acc=>some (acc,s)
 |n+1,s,acc=>if(verV s).2.2 then versV n (verV s).2.1 (acc++ [(verV s).1])else none
def rwV(s:List UInt8):Option (Rw×List UInt8):=
 let t:=z0H s 0
 let n:=numV t.2.1
 if t.2.2≠0∨n.2.2≠0∨100<n.1 then none else(versV n.1 n.2.1 []).map fun r=>(⟨t.1,r.1⟩,r.2)
def rwsV:Nat→List UInt8→List Rw→Option (List Rw×List UInt8)
 |0,s,acc=>some (acc,s)
 |n+1,s,acc=>match rwV s with
  |none=>none
  |some (r,s')=>rwsV n s' (acc++ [r])
def refGetV(s:List UInt8):Option (List Rw):=
 let n:=numV s
 if n.2.2≠0∨100<n.1 then none else match rwsV n.1 n.2.1 []with
  |none=>none
  |some (l,r)=>if r= []∧z1R l=true then some l else none
theorem versV_step{c i:Nat}(h:i<c)(s:List UInt8)(acc:List Vsn):versV (c-i) s acc=if(verV s).2.2 then versV (c-(i+1)) (verV s).2.1 (acc++ [(verV s).1])else none:=by
 rw [show c-i=c-(i+1)+1 by omega,versV]
theorem rwsV_step{c i:Nat}(h:i<c)(s:List UInt8)(acc:List Rw):rwsV (c-i) s acc=match rwV s with
 |none=>none
 |some (r,s')=>rwsV (c-(i+1)) s' (acc++ [r]):=by
 rw [show c-i=c-(i+1)+1 by omega,rwsV]
theorem rdNum_num(l:List UInt8):z0k l 0=numV l:=by
 unfold z0k numV;rw [if_neg (by simp)];cases z0S l with
 |error e=>simp only [zFH]
 |ok x=>rfl
theorem rdVsn_bad(s:List UInt8){er:Nat}(h:er≠0):(z7F (s,er)).2.2≠0:=by
 unfold z7F z0k;simp only;rw [if_pos h];simp only;unfold z1C;rw [if_pos h];simp only [Bool.false_eq_true,if_false];unfold z0H;rw [if_pos h];exact h
theorem rdVsns_bad:∀ (n:Nat) (s:List UInt8×Nat) (acc:List Vsn),s.2≠0→(z1t n s acc).2.2≠0
 |0,s,acc,h=>h
 |n+1,s,acc,h=>by
  rw [z1t];exact rdVsns_bad n _ _ (rdVsn_bad s.1 h)
theorem rdCount_err(l:List UInt8){er:Nat}(h:er≠0)(m:Int):z0I l er m=(0,l,er):=by
 unfold z0I;rw [if_pos h]
theorem rdRw_bad(s:List UInt8){er:Nat}(h:er≠0):(zIU (s,er)).2.2≠0:=by
 unfold zIU z0H;simp only;rw [if_pos h];simp only;rw [rdCount_err _ h];exact h
theorem rdRws_bad:∀ (n:Nat) (s:List UInt8×Nat) (acc:List Rw),s.2≠0→(z3B n s acc).2.2≠0
 |0,s,acc,h=>h
 |n+1,s,acc,h=>by
  rw [z3B];exact rdRws_bad n _ _ (rdRw_bad s.1 h)
theorem verV_rd(s:List UInt8):if(verV s).2.2 then z7F (s,0)=((verV s).1,((verV s).2.1,0))else(z7F (s,0)).2.2≠0:=by
 have hv0:verV s=if(numV s).2.2≠0∨(z1C (numV s).2.1 0).2.2≠0 then(⟨(numV s).1,[],(z1C (numV s).2.1 0).1⟩,s,false)else if(z1C (numV s).2.1 0).1 then(⟨(numV s).1,[],true⟩,(z1C (numV s).2.1 0).2.1,true)else
  (⟨(numV s).1,(z0H (z1C (numV s).2.1 0).2.1 0).1,false⟩,(z0H (z1C (numV s).2.1 0).2.1 0).2.1,(z0H (z1C (numV s).2.1 0).2.1 0).2.2==0):=rfl
 have hr0:z7F (s,0)=if(z1C (numV s).2.1 (numV s).2.2).1 then(⟨(numV s).1,[],true⟩,(z1C (numV s).2.1 (numV s).2.2).2)else
  (⟨(numV s).1,(z0H (z1C (numV s).2.1 (numV s).2.2).2.1 (z1C (numV s).2.1 (numV s).2.2).2.2).1,false⟩,(z0H (z1C (numV s).2.1 (numV s).2.2).2.1 (z1C (numV s).2.1 (numV s).2.2).2.2).2):=by
  rw [←rdNum_num];rfl
 obtain⟨n,hn⟩:∃n,numV s=n:=⟨_,rfl⟩;rw [hn]at hv0 hr0;obtain⟨t,a,e⟩:=n;simp only at hv0 hr0;by_cases h0:e=0
 ·subst h0;obtain⟨f,hf⟩:∃f,z1C a 0=f:=⟨_,rfl⟩;rw [hf]at hv0 hr0;obtain⟨f,b,g⟩:=f;simp only at hv0 hr0;by_cases h1:g=0
  ·subst h1;rw [if_neg (by simp)]at hv0;cases f with
   |true=>
    rw [if_pos rfl]at hv0 hr0;rw [hv0,if_pos rfl,hr0]
   |false=>
    rw [if_neg (by simp)]at hv0 hr0;obtain⟨x,hx⟩:∃x,z0H b 0=x:=⟨_,rfl⟩;rw [hx]at hv0 hr0;obtain⟨v,c,h⟩:=x;simp only at hv0 hr0;rw [hv0,hr0];by_cases h2:h=0
    ·subst h2;rw [if_pos (show((0:Nat)==0)=true from rfl)]
    ·rw [if_neg (by simpa using h2)];exact h2
  ·rw [if_pos (.inr h1)]at hv0;rw [hv0,if_neg (by simp),hr0];cases f with
   |true=>rw [if_pos rfl];exact h1
   |false=>
    rw [if_neg (by simp)];unfold z0H;rw [if_pos h1];exact h1
 ·rw [if_pos (.inl h0)]at hv0;have hf:z1C a e=(false,a,e):=by unfold z1C;rw [if_pos h0]
  rw [hf,if_neg (by simp)]at hr0;rw [hv0,if_neg (by simp),hr0];unfold z0H;rw [if_pos h0];exact h0
theorem versV_rd:∀ (n:Nat) (s:List UInt8) (acc:List Vsn),(match versV n s acc with
 |none=>(z1t n (s,0) acc).2.2≠0
 |some r=>z1t n (s,0) acc=(r.1,(r.2,0)))
 |0,s,acc=>rfl
 |n+1,s,acc=>by
  have h:=verV_rd s;rw [versV,z1t];cases hv:(verV s).2.2 with
  |true=>
   rw [hv]at h;simp only [if_true]at h ⊢;rw [h];exact versV_rd n _ _
  |false=>
   rw [hv]at h;simp only [Bool.false_eq_true,if_false]at h ⊢;exact rdVsns_bad n _ _ h
theorem rwV_rd(s:List UInt8):match rwV s with
 |none=>(zIU (s,0)).2.2≠0
 |some r=>zIU (s,0)=(r.1,(r.2,0)):=by
 unfold rwV zIU;simp only;obtain⟨t,ht⟩:∃t,z0H s 0=t:=⟨_,rfl⟩;rw [ht];obtain⟨k,a,f⟩:=t;simp only;by_cases hf:f=0
 ·subst hf;rw [rdCount_num];obtain⟨n,hn⟩:∃n,numV a=n:=⟨_,rfl⟩;rw [hn];obtain⟨m,b,g⟩:=n;simp only;by_cases hg:g=0
  ·subst hg;by_cases hm:100<m
   ·rw [if_pos (.inr (.inr hm)),if_neg (by simp),if_pos (by omega)];simp [z1t]
   ·rw [if_neg (by simp;omega),if_neg (by simp),if_neg (by omega)];have h:=versV_rd m b [];cases hv:versV m b []with
    |none=>rw [hv]at h;exact h
    |some r=>rw [hv]at h;simp only [Option.map_some]at h ⊢;rw [h]
  ·rw [if_pos (.inr (.inl hg)),if_pos hg];exact hg
 ·rw [if_pos (.inl hf)];simp only;rw [rdCount_err _ hf];exact hf
theorem rwsV_rd:∀ (n:Nat) (s:List UInt8) (acc:List Rw),(match rwsV n s acc with
 |none=>(z3B n (s,0) acc).2.2≠0
 |some r=>z3B n (s,0) acc=(r.1,(r.2,0)))
 |0,s,acc=>rfl
 |n+1,s,acc=>by
  have h:=rwV_rd s;rw [rwsV,z3B];cases hv:rwV s with
  |none=>
   rw [hv]at h;exact rdRws_bad n _ _ h
  |some r=>
   obtain⟨r,s'⟩:=r;rw [hv]at h;simp only at h ⊢;rw [h];exact rwsV_rd n _ _
theorem refGetV_rows(s:List UInt8):(∀l,refGetV s=some l→zHe s=(l,true))∧(refGetV s=none→(zHe s).2=false):=by
 unfold refGetV zHe;simp only;rw [show(100:Int)=((100:Nat):Int)from rfl,rdCount_num];obtain⟨n,hn⟩:∃n,numV s=n:=⟨_,rfl⟩;rw [hn];obtain⟨m,b,g⟩:=n;simp only;by_cases hg:g=0
 ·subst hg;by_cases hm:100<m
  ·rw [if_pos (.inr hm),if_neg (by simp),if_pos (by omega)];exact⟨fun l h=>(by cases h),fun _=>by simp [z3B,z1P]⟩
  ·rw [if_neg (by simp;omega),if_neg (by simp),if_neg (by omega)];have h:=rwsV_rd m b [];cases hv:rwsV m b []with
   |none=>
    rw [hv]at h;simp only at h ⊢;refine⟨fun l h=>(by cases h),fun _=> ?_⟩;have:z1P (z3B m (b,0) []).2.1 (z3B m (b,0) []).2.2≠0:=by
     unfold z1P;rw [if_neg fun q=>h q.1];exact h
    rw [beq_false_of_ne this];rfl
   |some r=>
    obtain⟨l,r⟩:=r;rw [hv]at h;simp only at h ⊢;rw [h];simp only;by_cases hr:r= []
    ·subst hr;cases hok:z1R l with
     |true=>rw [if_pos ⟨rfl,rfl⟩];exact⟨fun l' h=>by injection h with h;rw [h];rfl,fun h=>by cases h⟩
     |false=>rw [if_neg (by simp)];exact⟨fun l' h=>(by cases h),fun _=>by simp⟩
    ·have hp:=List.length_pos_iff.2 hr;rw [if_neg fun q=>hr q.1];refine⟨fun l' h=>(by cases h),fun _=> ?_⟩;unfold z1P;rw [if_pos ⟨rfl,hp⟩];rfl
 ·rw [if_pos (.inl hg),if_pos hg];refine⟨fun l h=>(by cases h),fun _=> ?_⟩;unfold z1P;simp [z3B,hg]
end
section
open Go Go.RowKit
theorem rdFlag_fits(l:List UInt8):(z1C l 0).2.1.length≤l.length∧(z1C l 0).2.2≤1000:=by
 unfold z1C;rw [if_neg (by simp)];rcases l with _|⟨b,r⟩
 ·simp
 ·simp only
  split<;>simp
theorem refVer_any(s:List UInt8)(w:World)(hl:s.length≤1099511627776):
 Calls Tryz.prog 48 #[.string (st s)] w fun e w'=>e= .returned (.tuple #[.agg #[.int .u64 ((verV s).1.t:Int),.string (st (verV s).1.v),.bool (verV s).1.gone],.string (st (verV s).2.1),.bool (verV s).2.2])∧Below w.heap.size w w':=by
 have hv0:verV s=if(numV s).2.2≠0∨(z1C (numV s).2.1 0).2.2≠0 then(⟨(numV s).1,[],(z1C (numV s).2.1 0).1⟩,s,false)else if(z1C (numV s).2.1 0).1 then(⟨(numV s).1,[],true⟩,(z1C (numV s).2.1 0).2.1,true)else
  (⟨(numV s).1,(z0H (z1C (numV s).2.1 0).2.1 0).1,false⟩,(z0H (z1C (numV s).2.1 0).2.1 0).2.1,(z0H (z1C (numV s).2.1 0).2.1 0).2.2==0):=rfl
 obtain⟨R,hR⟩:∃R,verV s=R:=⟨_,rfl⟩;rw [hR]at hv0 ⊢;have HV:=zz hv0;have hle:=zJG s;have b2:=Blk.new w 73 #[.int .u64 0,.string ⟨#[]⟩,.bool false];have q:=(Below.refl w.heap.size w).alloc (Nat.le_refl _) (.cells #[.int .u64 0,.string ⟨#[]⟩,.bool false] 73);have hN:=refNum_any s (w.alloc (.cells #[.int .u64 0,.string ⟨#[]⟩,.bool false] 73)) hl;have HN:=zz hN;clear hR hv0 hN;go_enter Tryz.func48,Tryz.ntmps48
 go_upto_region 1 with(fail)
 generalize hW:w.alloc (.cells #[.int .u64 0,.string ⟨#[]⟩,.bool false] 73)=W at*;clear hW;go_wp2_with fail
 refine HN.out.mono ?_;rintro e w1 ⟨rfl,hb1⟩;obtain⟨n,hn⟩:∃n,numV s=n:=⟨_,rfl⟩;rw [hn]at HV hle;rw [hn];obtain⟨t,a,er⟩:=n;simp only at HV hle ⊢;have hF:=refTakeF_any a w1 (by omega);have HF:=zz hF;have B2:=zz (b2.later hb1);have q:=q.trans (hb1.mono q.size);clear hn hF b2 hb1 HN;go_wp2_with fail
 refine HF.out.mono ?_;rintro e w2 ⟨rfl,hb2⟩;have hfl:=rdFlag_fits a;obtain⟨f,hf⟩:∃f,z1C a 0=f:=⟨_,rfl⟩;rw [hf]at HV hfl;rw [hf];obtain⟨f,b,g⟩:=f;unfold takeF fldF;simp only at HV hfl ⊢;have B2:=zz ((B2.out.later hb2).alloc (.cells #[.int .i64 2,.int .u64 0,.string (st []),.bool f,.int .i64 0] 91));have B8:=zz (Blk.new w2 91 #[.int .i64 2,.int .u64 0,.string (st []),.bool f,.int .i64 0]);have q:=(q.trans (hb2.mono q.size)).alloc (q.trans (hb2.mono q.size)).size (.cells #[.int .i64 2,.int .u64 0,.string (st []),.bool f,.int .i64 0] 91);clear hf hb2 HF;go_upto_region 3 with(fail)
 generalize hW:w2.alloc (.cells #[.int .i64 2,.int .u64 0,.string (st []),.bool f,.int .i64 0] 91)=W2 at*;clear hW;obtain⟨g8,hg8⟩:∃g,w2.heap.size=g:=⟨_,rfl⟩;rw [hg8]at B8 ⊢;clear hg8;have hgg:w.heap.size<W2.heap.size:=B2.out.lt;have c83:W2.cell? ⟨g8,3,none⟩=some (.bool f):=B8.out.cell 3;have B2:=zz (B2.out.alloc (.cells #[.int .u64 (t:Int),.string ⟨#[]⟩,.bool f] 73));have B11:=zz (Blk.new W2 73 #[.int .u64 (t:Int),.string ⟨#[]⟩,.bool f]);have q:=q.alloc q.size (.cells #[.int .u64 (t:Int),.string ⟨#[]⟩,.bool f] 73);go_upto_region 4 with(fail)
 generalize hW:W2.alloc (.cells #[.int .u64 (t:Int),.string ⟨#[]⟩,.bool f] 73)=W3 at*;clear hW B8 c83;obtain⟨g11,hg11⟩:∃g,W2.heap.size=g:=⟨_,rfl⟩;rw [hg11]at B11 hgg ⊢;clear hg11;have n0:=B2.out.lt;have n11:=B11.out.lt;have hb11:=B11.out;have c110:(W3).cell? ⟨g11,0,none⟩=some (.int .u64 (t:Int)):=hb11.cell 0;have c111:(W3).cell? ⟨g11,1,none⟩=some (.string ⟨#[]⟩):=hb11.cell 1;have c112:(W3).cell? ⟨g11,2,none⟩=some (.bool f):=hb11.cell 2;have f20:=B2.out.free 0;have f21:=B2.out.free 1;have f22:=B2.out.free 2;have c20:W3.cell? ⟨w.heap.size,0,none⟩=some (.int .u64 0):=B2.out.cell 0;have c21:W3.cell? ⟨w.heap.size,1,none⟩=some (.string ⟨#[]⟩):=B2.out.cell 1;have c22:W3.cell? ⟨w.heap.size,2,none⟩=some (.bool false):=B2.out.cell 2;clear hb11;by_cases he:er=0∧g=0
 ·obtain⟨rfl,rfl⟩:=he;have HV:=zz (HV.out.trans (if_neg (by simp)));cases f with
  |true=>
   have HV:=zz (HV.out.trans (if_pos rfl));go_wp2_with fail
   refine bodyPost_ret (z0x rfl _ _ w.heap.size rfl (B2.out.put3 _ _ _) vsnTy) rfl ⟨?_,z0b q (Nat.le_refl _) _ _ _⟩;rw [HV.out];rfl
  |false=>
   have HV:=zz (HV.out.trans (if_neg (by simp)));have HT:=zz (refTake_any b W3 (by omega));clear f20 f21 f22 c110 c111 c20 c21 c22;go_wp2_with fail
   refine HT.out.mono ?_;rintro e w4 ⟨rfl,hb4⟩;obtain⟨x,hx⟩:∃x,z0H b 0=x:=⟨_,rfl⟩;rw [hx]at HV;rw [hx];obtain⟨v,c,h⟩:=x;unfold takeV fldC;simp only at HV ⊢;have B2:=zz ((B2.out.later hb4).alloc (.cells #[.int .i64 1,.int .u64 0,.string (st v),.bool false,.int .i64 0] 91));have B11:=zz ((B11.out.later hb4).alloc (.cells #[.int .i64 1,.int .u64 0,.string (st v),.bool false,.int .i64 0] 91));have B12:=zz (Blk.new w4 91 #[.int .i64 1,.int .u64 0,.string (st v),.bool false,.int .i64 0]);have q:=(q.trans (hb4.mono q.size)).alloc (q.trans (hb4.mono q.size)).size (.cells #[.int .i64 1,.int .u64 0,.string (st v),.bool false,.int .i64 0] 91);clear hx hb4 HT c112;go_upto_region 9 with(fail)
   generalize hW:w4.alloc (.cells #[.int .i64 1,.int .u64 0,.string (st v),.bool false,.int .i64 0] 91)=W4 at*;clear hW;obtain⟨g12,hg12⟩:∃g,w4.heap.size=g:=⟨_,rfl⟩;rw [hg12]at B12 ⊢;clear hg12;have c122:W4.cell? ⟨g12,2,none⟩=some (.string (st v)):=B12.out.cell 2;have f11:=B11.out.free 1;have c111:W4.cell? ⟨g11,1,none⟩=some (.string ⟨#[]⟩):=B11.out.cell 1;have ne:w.heap.size≠g11:=by omega
   have B2:=zz (B2.out.far (p:=⟨g11,1,none⟩) ne (.string (st v)));have B11:Hid (Blk (W4.setCell ⟨g11,1,none⟩ (.string (st v))) g11 73 #[.int .u64 (t:Int),.string (st v),.bool false]):=B11.out.put 1 _;have q:=q.setCell (p:=⟨g11,1,none⟩) (show w.heap.size≤g11 by omega) (.string (st v));go_upto_region 10 with(fail)
   generalize hW:W4.setCell ⟨g11,1,none⟩ (.string (st v))=W5 at*;clear hW c122 f11 c111 B12;have hb11:=B11.out;have c110:(W5).cell? ⟨g11,0,none⟩=some (.int .u64 (t:Int)):=hb11.cell 0;have c111:(W5).cell? ⟨g11,1,none⟩=some (.string (st v)):=hb11.cell 1;have c112:(W5).cell? ⟨g11,2,none⟩=some (.bool false):=hb11.cell 2;have f20:=B2.out.free 0;have f21:=B2.out.free 1;have f22:=B2.out.free 2;have c20:W5.cell? ⟨w.heap.size,0,none⟩=some (.int .u64 0):=B2.out.cell 0;have c21:W5.cell? ⟨w.heap.size,1,none⟩=some (.string ⟨#[]⟩):=B2.out.cell 1;have c22:W5.cell? ⟨w.heap.size,2,none⟩=some (.bool false):=B2.out.cell 2;obtain⟨z,hz⟩:∃z,(h==0)=z:=⟨_,rfl⟩;have hz1:((h:Int)==0)=z:=by rw [←hz,Bool.eq_iff_iff];simp only [beq_iff_eq];omega
   rw [hz]at HV;clear hb11 hz;go_wp2_with fail
   refine bodyPost_ret (z0x rfl _ _ w.heap.size rfl (B2.out.put3 _ _ _) vsnTy) rfl ⟨?_,z0b q (Nat.le_refl _) _ _ _⟩;rw [HV.out];rfl
 ·have HV:=zz (HV.out.trans (if_pos (by omega)));have he2:(((er:Int) != 0)=true)∨(((er:Int) != 0)=false∧((g:Int) != 0)=true):=by
   by_cases h0:er=0
   ·right;subst h0;exact⟨rfl,by simp;omega⟩
   ·left;simp;omega
  rcases he2 with he2|⟨he2,he3⟩
  all_goals
   go_wp2_with fail
   refine bodyPost_ret (z0x rfl _ _ w.heap.size rfl (B2.out.put3 _ _ _) vsnTy) rfl ⟨?_,z0b q (Nat.le_refl _) _ _ _⟩;rw [HV.out];rfl
theorem verV_bd(s:List UInt8):(verV s).1.t<U64∧(verV s).1.v.length≤65536∧(verV s).2.1.length≤s.length:=by
 have h1:=zJG s;have h2:=rdFlag_fits (numV s).2.1;have h3:=z4i (z1C (numV s).2.1 0).2.1 (e:=0) (Nat.zero_le _);unfold verV;simp only
 split
 ·exact⟨h1.1,by simp,Nat.le_refl _⟩
 ·split
  ·exact⟨h1.1,by simp,by simp only;omega⟩
  ·exact⟨h1.1,h3.1,by simp only;omega⟩
structure GgIn(w0 wq:World)(gx:Nat)(k:List UInt8)(sl:Value)(vs:List Vsn):Prop where
 own:wq.ownsRow w0.heap.size 73 3 sl vs.length (vsC vs)
 x:Blk wq gx 46 #[.string (st k),sl]
 below:Below w0.heap.size w0 wq
 gx0:w0.heap.size≤gx
 vin:VsIn vs
structure GgSt(w wr:World)(sv:Value)(p:RwV):Prop where
 own:Rwo wr w.heap.size sv p
 below:Below w.heap.size w wr
 rin:RwIn p
section
variable {w w0 wq w':World} {gx:Nat} {k:List UInt8} {sl:Value} {vs:List Vsn}
theorem GgIn.later(h:GgIn w0 wq gx k sl vs)(q:Below wq.heap.size wq w'):GgIn w0 w' gx k sl vs:=
 ⟨z0y h.own q,h.x.later q,h.below.trans (q.mono h.below.size),h.gx0,h.vin⟩
theorem GgIn.alloc(h:GgIn w0 wq gx k sl vs)(o:Obj):GgIn w0 (wq.alloc o) gx k sl vs:=h.later ((Below.refl wq.heap.size wq).alloc (Nat.le_refl _) o)
theorem GgIn.push(h:GgIn w0 wq gx k sl vs){o:Obj}{A:Option Addr}{n c:Nat}{x:Vsn}(hown:w'.ownsRow w0.heap.size 73 3 (.slice A n c) (vs.length+1) (vsC vs++zAo x))(hg:(wq.alloc o).grownBy w' sl.ownBlock)(hv:VsIn (vs++ [x])):
 Blk w' gx 46 #[.string (st k),sl]∧GgIn w0 (w'.setCell ⟨gx,1,none⟩ (.slice A n c)) gx k (.slice A n c) (vs++ [x])∧n=vs.length+1:=by
 have ha:=h.alloc o;have hn:=z0V hown;have hb:Below w0.heap.size w0 w':=z02 ha.below ha.own hg ha.below.size;have hx:=ha.x.kept ha.own hg (by decide);have hne:∀q,(Value.slice A n c).ownBlock=some q→q≠gx:=fun q hq e=>by
  subst e;rcases hown.2 with⟨hv,hz⟩|⟨g',cap,cur,hv,_,hh,_⟩
  ·omega
  ·rw [hv]at hq;injection hq with hq
   subst hq;have:=hx.symm.trans hh;injection this with this
   injection this with _ this
   exact absurd this (by decide)
 refine⟨hx,⟨?_,hx.put 1 _,hb.setCell h.gx0 _,h.gx0,hv⟩,hn⟩;rw [List.length_append,zJS,zD1];exact zBx hown (fun e=>hne gx e rfl) 1 _
end
def RgetPost(R:Option (List Rw))(w:World)(e:Ending)(w':World):Prop:=Below w.heap.size w w'∧(R=none→∃v,e= .returned (.tuple #[v,.bool false]))∧
     (∀l,R=some l→∃v p,e= .returned (.tuple #[v,.bool true])∧p.map (·.1)=l∧RwIn p∧Rws (fun b=>w.heap.size≤b∧b<w'.heap.size) w' v p)
theorem RgetPost.no{R:Option (List Rw)}{w w':World}{e:Ending}{v:Value}(hR:R=none)(he:e= .returned (.tuple #[v,.bool false]))(hb:Below w.heap.size w w'):RgetPost R w e w':=
 ⟨hb,fun _=>⟨v,he⟩,fun l h=>by rw [hR]at h;cases h⟩
theorem refMGet_any(s:List UInt8)(w:World)(hl:s.length≤1099511627776):
 Calls Tryz.prog 15 #[.string (st s)] w (RgetPost (refGetV s) w):=by
 have hP:refGetV s=if(numV s).2.2≠0∨100<(numV s).1 then none else match rwsV (numV s).1 (numV s).2.1 []with
  |none=>none
  |some (l,r)=>if r= []∧z1R l=true then some l else none:=rfl
 obtain⟨R,hR⟩:∃R,refGetV s=R:=⟨_,rfl⟩;rw [hR]at hP ⊢;have HP:=zz hP;have HN:=zz (refNum_any s (w.alloc (.cells #[] 46)) hl);have hle:=zJG s;have q0:=(Below.refl w.heap.size w).alloc (Nat.le_refl _) (.cells #[] 46);have HS0:Hid (GgSt w (w.alloc (.cells #[] 46)) (.slice (some ⟨w.heap.size,0,none⟩) 0 0) []):=⟨⟨World.ownsRow_made w #[] 0 (base:=w.heap.size) (Nat.le_refl _) (by simp [maxLen]) (by simp),fun x hx=>by cases hx⟩,q0,⟨by simp,fun x hx=>by cases hx⟩⟩;clear hR hP q0;go_enter Tryz.func15,Tryz.ntmps15
 go_upto_region 2 with(fail)
 generalize hW:w.alloc (.cells #[] 46)=W at*;clear hW;go_wp2_with fail
 refine HN.out.mono ?_;rintro e w1 ⟨rfl,hb1⟩;obtain⟨X,hX⟩:∃X,numV s=X:=⟨_,rfl⟩;rw [hX]at HP hle;rw [hX];obtain⟨n,r0,e0⟩:=X;simp only at HP hle ⊢;have R0:Hid (GgSt w w1 (.slice (some ⟨w.heap.size,0,none⟩) 0 0) []):=⟨HS0.out.own.later hb1,HS0.out.below.trans (hb1.mono HS0.out.below.size),HS0.out.rin⟩;clear hX hb1 HS0 HN;by_cases hbad:e0≠0∨100<n
 ·have HP:=zz (HP.out.trans (if_pos hbad));have he2:(((e0:Int) != 0)=true)∨(((e0:Int) != 0)=false∧(100:Int)<(n:Int)):=by
   by_cases h0:e0=0
   ·right;subst h0;exact⟨rfl,by omega⟩
   ·left;simp;omega
  rcases he2 with he2|⟨he2,he3⟩
  all_goals
   go_wp2_with fail
   go_ret2
   exact RgetPost.no HP.out rfl R0.out.below
 ·replace HP:=zz (HP.out.trans (if_neg hbad));obtain⟨rfl,hn100⟩:e0=0∧n≤100:=by omega
  have R1:Hid (GgSt w w1 (.slice (some ⟨w.heap.size,0,none⟩) 0 0) []∧rwsV (n-0) r0 []=rwsV n r0 []):=⟨R0.out,rfl⟩;have hr0:r0.length≤1099511627776:=by omega
  have hng:¬ (100:Int)<(n:Int):=by omega
  clear R0 hbad;go_wp2_with fail
  go_loopw [4,6,8] (fun sv rv iv wr=>∃ (i:Nat) (A:Option Addr) (kk c':Nat) (p:RwV) (lr:List UInt8),sv= .slice A kk c'∧rv= .string (st lr)∧iv= .int .u64 (i:Int)∧i≤n∧p.length=i∧lr.length≤1099511627776∧Hid (GgSt w wr (.slice A kk c') p∧rwsV (n-i) lr (p.map (·.1))=rwsV n r0 [])) (fun _ _ iv _=>n-(intOf iv).toNat)
  case atStart=>exact⟨0,_,_,_,[],r0,rfl,rfl,rfl,by omega,rfl,hr0,R1⟩
  case round=>
   clear R1;obtain⟨i,A,kk,c',p,lr,rfl,rfl,rfl,hi,hlen,hlr,RR⟩:=hrel;have HST:=zz RR.out.1;obtain rfl:kk=p.length:=z0V RR.out.1.own.own;by_cases hic:i<n
   ·subst hlen;have HS:=zz ((rwsV_step hic lr (p.map (·.1))).symm.trans RR.out.2);clear RR;have HT1:=zz (refTake_any lr wr hlr);have hk1:=z4i lr (e:=0) (Nat.zero_le _);have hrw:rwV lr=if(z0H lr 0).2.2≠0∨(numV (z0H lr 0).2.1).2.2≠0∨100<(numV (z0H lr 0).2.1).1 then none else(versV (numV (z0H lr 0).2.1).1 (numV (z0H lr 0).2.1).2.1 []).map fun r=>(⟨(z0H lr 0).1,r.1⟩,r.2):=rfl
    obtain⟨X1,hX1⟩:∃X,z0H lr 0=X:=⟨_,rfl⟩;rw [hX1]at HT1 hk1 hrw;obtain⟨k,a,f⟩:=X1;unfold takeV fldC at HT1;simp only at HT1 hk1 hrw;clear hX1;go_wp2_with fail
    refine HT1.out.mono ?_;rintro e wa ⟨rfl,hba⟩;have hka:=hba.alloc hba.size (.cells #[.int .i64 1,.int .u64 0,.string (st k),.bool false,.int .i64 0] 91);have B9:=zz (Blk.new wa 91 #[.int .i64 1,.int .u64 0,.string (st k),.bool false,.int .i64 0]);have HKA:=zz hka;clear hba hka HT1;go_upto_region 9 with(fail)
    generalize hW:wa.alloc (.cells #[.int .i64 1,.int .u64 0,.string (st k),.bool false,.int .i64 0] 91)=Wa at*;clear hW;obtain⟨g9,hg9⟩:∃g,wa.heap.size=g:=⟨_,rfl⟩;rw [hg9]at B9 ⊢;clear hg9;have HN1:=zz (refNum_any a Wa (by omega));have hn1:=zJG a;obtain⟨X2,hX2⟩:∃X,numV a=X:=⟨_,rfl⟩;rw [hX2]at HN1 hn1 hrw;obtain⟨m,b0,g⟩:=X2;simp only at HN1 hn1 hrw;have HRW0:=zz hrw;clear hX2 hrw;go_wp2_with fail
    refine HN1.out.mono ?_;rintro e wb ⟨rfl,hbb⟩;have HKB:=zz (HKA.out.trans (hbb.mono HKA.out.size));have B9:=zz (B9.out.later hbb);clear hbb HKA HN1;by_cases hbad2:f≠0∨g≠0∨100<m
    ·have hno:R=none:=by
      have h1:=HRW0.out.trans (if_pos hbad2);have h2:=HS.out;rw [h1]at h2;have h3:=HP.out;rw [←h2]at h3;exact h3
     have HNO:=zz hno;have he2:(((f:Int) != 0)=true)∨(((f:Int) != 0)=false∧((g:Int) != 0)=true)∨(((f:Int) != 0)=false∧((g:Int) != 0)=false∧(100:Int)<(m:Int)):=by
      by_cases h0:f=0
      ·right;by_cases h1:g=0
       ·right;subst h0 h1;exact⟨rfl,rfl,by omega⟩
       ·left;subst h0;exact⟨rfl,by simp;omega⟩
      ·left;simp;omega
     have HBL:Hid (Below w.heap.size w wb):=HST.out.below.trans (HKB.out.mono HST.out.below.size);clear HP HS HRW0 HST hno B9 HKB;rcases he2 with he2|⟨he2,he3⟩|⟨he2,he3,he4⟩
     all_goals
      go_wp2_with fail
      go_ret2
      exact RgetPost.no HNO.out rfl HBL.out
    ·have HRW1:=zz (HRW0.out.trans (if_neg hbad2));obtain⟨rfl,rfl,hm100⟩:f=0∧g=0∧m≤100:=by omega
     have hmg:¬ (100:Int)<(m:Int):=by omega
     have c92:wb.cell? ⟨g9,2,none⟩=some (.string (st k)):=B9.out.cell 2;have hk65:k.length≤65536:=hk1.1;have HI0:Hid (GgIn wb (wb.alloc (.cells #[.string (st k),.slice none 0 0] 46)) wb.heap.size k (.slice none 0 0) []):=⟨World.ownsRow_nil _ _ _ 3,Blk.new _ _ _,(Below.refl _ _).alloc (Nat.le_refl _) _,Nat.le_refl _,⟨by simp,fun x hx=>by cases hx⟩⟩;clear HRW0 hbad2 B9;go_upto_region 13 with(fail)
     generalize hW:wb.alloc (.cells #[.string (st k),.slice none 0 0] 46)=W2 at*;clear hW c92;obtain⟨gx,hgx⟩:∃gx,wb.heap.size=gx:=⟨_,rfl⟩;rw [hgx]at HI0 ⊢;have R2:Hid (GgIn wb W2 gx k (.slice none 0 0) []∧versV (m-0) b0 []=versV m b0 []):=⟨HI0.out,rfl⟩;have hb0l:b0.length≤1099511627776:=by omega
     clear HI0;go_wp2_with fail
     generalize wr=wo at*;go_loopw [13,16] (fun bv jv wr=>∃ (j:Nat) (A2:Option Addr) (c2':Nat) (vs:List Vsn) (lq:List UInt8),bv= .string (st lq)∧jv= .int .u64 (j:Int)∧j≤m∧vs.length=j∧lq.length≤1099511627776∧Hid (GgIn wb wr gx k (.slice A2 vs.length c2') vs∧versV (m-j) lq vs=versV m b0 [])) (fun _ jv _=>m-(intOf jv).toNat)
     case atStart=>exact⟨0,none,0,[],b0,rfl,rfl,by omega,rfl,hb0l,R2⟩
     case round=>
      clear R2;obtain⟨j,A2,c2',vs,lq,rfl,rfl,hj,hvlen,hlq,RJ⟩:=hrel;have HIN:=zz RJ.out.1;by_cases hjc:j<m
      ·subst hvlen;have HSJ:=zz ((versV_step hjc lq vs).symm.trans RJ.out.2);clear RJ;have HV:=zz (refVer_any lq wr hlq);have hbd:=verV_bd lq;obtain⟨X3,hX3⟩:∃X,verV lq=X:=⟨_,rfl⟩;rw [hX3]at HV hbd HSJ;obtain⟨⟨t,v,fl⟩,l3,okk⟩:=X3;simp only at HV hbd HSJ;clear hX3;go_wp2_with fail
       refine HV.out.mono ?_;rintro e wc ⟨rfl,hbc⟩;have HI2:=zz ((HIN.out.later hbc).alloc (.cells #[.int .u64 (t:Int),.string (st v),.bool fl] 73));have B17:=zz (Blk.new wc 73 #[.int .u64 (t:Int),.string (st v),.bool fl]);clear hbc HV HIN;go_upto_region 17 with(fail)
       generalize hW:wc.alloc (.cells #[.int .u64 (t:Int),.string (st v),.bool fl] 73)=W7 at*;clear hW;generalize wc.heap.size=gv at*;cases okk with
       |false=>
        have hno:R=none:=by
         have h2:=HSJ.out;simp only [Bool.false_eq_true,if_false]at h2;have h1:=HRW1.out;rw [←h2]at h1;have h4:=HS.out;rw [h1]at h4;have h3:=HP.out;rw [←h4]at h3;exact h3
        have HNO:=zz hno;have HBL:Hid (Below w.heap.size w W7):=HST.out.below.trans ((HKB.out.trans (HI2.out.below.mono HKB.out.size)).mono HST.out.below.size);clear HP HS HRW1 HST hno HKB HI2 B17 HSJ;go_wp2_with fail
        go_ret2
        exact RgetPost.no HNO.out rfl HBL.out
       |true=>
        have x1:W7.cell? ⟨gx,1,none⟩=some (.slice A2 vs.length c2'):=HI2.out.x.cell 1;have hbv:=B17.out;have v0:(W7).cell? ⟨gv,0,none⟩=some (.int .u64 (t:Int)):=hbv.cell 0;have v1:(W7).cell? ⟨gv,1,none⟩=some (.string (st v)):=hbv.cell 1;have v2:(W7).cell? ⟨gv,2,none⟩=some (.bool fl):=hbv.cell 2;clear hbv;have hvl:=HI2.out.vin;have hvin:VsIn (vs++ [⟨t,v,fl⟩]):=⟨by simp;omega,fun x hx=>by
         rcases List.mem_append.1 hx with hx|hx
         ·exact hvl.2 x hx
         ·obtain rfl:=List.mem_singleton.1 hx;exact⟨hbd.1,hbd.2.1⟩⟩
        have HVIN:=zz hvin;have hwl:vs.length+1≤100:=by omega
        have hwj:IntKind.u64.wrap ((vs.length:Int)+1)=(vs.length:Int)+1:=z0l (by omega) (by unfold U64;omega);clear hvin hvl;go_wp2_with (at_builtin;go_loud (refine z05 _ rfl (.tmp 77) (.tmp 79) zAp rfl (HI2.out.alloc _).own (Sl.newb (S:=fun _=>True) _ _ (zAo ⟨t,v,fl⟩) (by simp) trivial) rfl rfl (by intro y hy;simp [zAo]at hy;rcases hy with rfl|rfl|rfl<;>rfl) (by simp only [maxLen];omega) (by omega) (by have:=HI2.out.below.size;simp;omega) ?_);intro A5 k5 c5 w5 hown5 hg5 hat5;obtain⟨hx5,hi5,rfl⟩:=HI2.out.push hown5 hg5 HVIN.out;have p1:w5.cell? ⟨gx,1,none⟩=some (.slice A2 vs.length c2'):=hx5.cell 1;have f1:w5.frozen? ⟨gx,1,none⟩=false:=hx5.free 1)
        have hstp:=HSJ.out;rw [if_pos rfl]at hstp;have RF:Hid (GgIn wb (w5.setCell ⟨gx,1,none⟩ (.slice A5 (vs.length+1) c5)) gx k (.slice A5 (vs++ [(⟨t,v,fl⟩:Vsn)]).length c5) (vs++ [⟨t,v,fl⟩])∧versV (m-(vs.length+1)) l3 (vs++ [⟨t,v,fl⟩])=versV m b0 []):=⟨by rw [List.length_append];exact hi5,hstp⟩;have hl3:l3.length≤1099511627776:=by omega
        clear hi5 hown5 hg5 hat5 hstp HI2 B17 HSJ hx5 p1 f1 x1 v0 v1 v2;go_wp2_with fail
        go_roundw
        case rel=>exact⟨vs.length+1,A5,c5,_,_,rfl,by go_num,by omega,by simp,hl3,RF⟩
        case measure=>simp [intOf];omega
      ·subst hvlen;obtain rfl:m=vs.length:=by omega
       have hE:=RJ.out.2;rw [Nat.sub_self,versV]at hE;have HRW:Hid (rwV lr=some (⟨k,vs⟩,lq)):=by rw [Hid,HRW1.out,←hE];rfl
       have hxq:=HIN.out.x;have g0':wr.cell? ⟨gx,0,none⟩=some (.string (st k)):=hxq.cell 0;have g1':wr.cell? ⟨gx,1,none⟩=some (.slice A2 vs.length c2'):=hxq.cell 1;have tw:Below wo.heap.size wo wr:=HKB.out.trans (HIN.out.below.mono HKB.out.size);have hro:Rwo wr w.heap.size (.slice A p.length c') p:=HST.out.own.later tw;have HRO:=zz hro;have hszb:=HKB.out.size;have hszo:=HST.out.below.size;have HU:Hid (Vs (fun b=>w.heap.size≤b∧b<wr.heap.size∧(Value.slice A p.length c').ownBlock≠some b) wr (.slice A2 vs.length c2') vs):=by
        refine(Sl.of_own (by omega) HIN.out.own).more fun b hb=>⟨by omega,hb.2,fun e=> ?_⟩
        have:=(HST.out.own.own.lt b e).2;omega
       have hpl:p.length+1≤100:=by omega
       have HSZ:Hid (w.heap.size≤wr.heap.size):=by have:=tw.size;rw [Hid];omega
       have HTW:=zz tw;have hwi:IntKind.u64.wrap ((p.length:Int)+1)=(p.length:Int)+1:=z0l (by omega) (by unfold U64;omega);clear hE RJ tw hro hxq hszb hszo;go_wp2_with (at_builtin;go_loud (refine z05 _ rfl (.tmp 83) (.tmp 85) z74 rfl (HRO.out.later ((Below.refl _ _).alloc (Nat.le_refl _) _)).own (Sl.newb (S:=fun _=>True) _ _ [.string (st k),.slice A2 vs.length c2'] (by simp) trivial) rfl rfl (by intro y hy;simp at hy;rcases hy with rfl|rfl<;>rfl) (by simp only [maxLen];omega) (by omega) (by have:=HSZ.out;simp;omega) ?_);intro A5 k5 c5 w5 hown5 hg5 hat5)
       obtain rfl:k5=p.length+1:=z0V hown5;have hro5:Rwo w5 w.heap.size (.slice A5 (p.length+1) c5) (p++ [(⟨k,vs⟩,.slice A2 vs.length c2')]):=HRO.out.step HSZ.out hown5 hg5 hat5 HU.out;have hbq:Below w.heap.size w wr:=HST.out.below.trans (HTW.out.mono HST.out.below.size);have hb5:Below w.heap.size w w5:=z02 (hbq.alloc hbq.size _) (HRO.out.later ((Below.refl _ _).alloc (Nat.le_refl _) _)).own hg5 (by have:=hbq.size;simp;omega);have hstp:=HS.out;rw [HRW.out]at hstp;simp only at hstp;have RF:Hid (GgSt w w5 (.slice A5 (p.length+1) c5) (p++ [(⟨k,vs⟩,.slice A2 vs.length c2')])∧rwsV (n-(p.length+1)) lq ((p++ [((⟨k,vs⟩:Rw),Value.slice A2 vs.length c2')]).map (·.1))=rwsV n r0 []):=
        ⟨⟨hro5,hb5,⟨by simp;omega,fun x hx=>by
          rcases List.mem_append.1 hx with hx|hx
          ·exact HST.out.rin.2 x hx
          ·obtain rfl:=List.mem_singleton.1 hx;exact⟨hk65,HIN.out.vin⟩⟩⟩,by rw [List.map_append];exact hstp⟩
       clear hro5 hb5 hbq hown5 hg5 hat5 hstp HRO HU HST HIN HS HRW HSZ HTW HRW1 HKB;go_wp2_with fail
       go_roundw
       case rel=>exact⟨p.length+1,A5,p.length+1,c5,_,_,rfl,rfl,by go_num,by omega,by simp,hlq,RF⟩
       case measure=>simp [intOf];omega
   ·subst hlen;obtain rfl:n=p.length:=by omega
    have hE:=RR.out.2;rw [Nat.sub_self,rwsV]at hE;have hP:=HP.out;rw [←hE]at hP;simp only at hP;have HRS:=zz HST.out.own.rws;have HM:=zz (zBT _ _ p wr HRS.out HST.out.rin.mild);clear hE RR HP;by_cases hz:lr= []
    ·subst hz;cases hok:z1R (p.map (·.1))with
     |true=>
      rw [hok]at hP HM;have HP:=zz (hP.trans (if_pos ⟨rfl,rfl⟩));clear hP;go_wp2_with fail
      refine HM.out.mono ?_;rintro e w8 ⟨rfl,hb8⟩;have HB8:=zz hb8;clear HM hb8;go_wp2_with fail
      go_ret2
      refine⟨HST.out.below.trans (HB8.out.mono HST.out.below.size),fun h=>(by rw [HP.out]at h;cases h),fun l h=> ?_⟩;rw [HP.out]at h;injection h with h
      have h8:=HB8.out.size;exact⟨_,p,rfl,h,HST.out.rin,(HRS.out.below HB8.out fun b hb=>hb.2).more fun b hb=>⟨hb.1,by omega⟩⟩
     |false=>
      rw [hok]at hP HM;have HP:=zz (hP.trans (if_neg (by simp)));clear hP;go_wp2_with fail
      refine HM.out.mono ?_;rintro e w8 ⟨rfl,hb8⟩;have HB8:=zz hb8;clear HM hb8;go_wp2_with fail
      go_ret2
      exact RgetPost.no HP.out rfl (HST.out.below.trans (HB8.out.mono HST.out.below.size))
    ·have HP:=zz (hP.trans (if_neg fun h=>hz h.1));have hzz:(st lr==(⟨#[]⟩:ByteArray))=false:=by
      rcases lr with _|⟨y,lr⟩
      ·exact absurd rfl hz
      ·rfl
     clear hP HM;go_wp2_with fail
     go_ret2
     exact RgetPost.no HP.out rfl HST.out.below
theorem law_MoveGets(l:List UInt8)(w:World)(hb:BitsOk w)(hl:l.length≤9223372036854775807):
 Calls Tryz.prog 4 #[.string (st l)] w fun e w'=>e= .returned (.bool true)∧Below w.heap.size w w':=by
 have HB:=zz hb;clear hb;by_cases hlen:3000<l.length
 ·have t1:(3000:Int)<(l.length:Int):=by omega
  go_enter Tryz.func4,Tryz.ntmps4
  go_wp2_with fail
  refine(z4I w HB.out).mono ?_;rintro e w1 ⟨rfl,hbl1⟩;go_wp2_with fail
  go_ret
  exact⟨rfl,hbl1⟩
 ·have t1:¬ (3000:Int)<(l.length:Int):=by omega
  have hm:l.length≤maxLen:=by simp only [maxLen];omega
  go_enter Tryz.func4,Tryz.ntmps4
  go_wp2_with (refine z1W _ rfl (.tmp 12) rfl tS tB tU hm rfl ?_;intro A1 c1 w1 hbs1 hbl1 hsz1)
  clear hm;have HQ1:=zz hbl1;refine(zGh _ _ l w1 (by omega) hbs1).mono ?_;rintro e w2 ⟨hb2,hno,hyes⟩;have HQ2:=zz (HQ1.out.trans (hb2.mono HQ1.out.size));have HG:=zz (refMGet_any l w2 (by omega));obtain⟨he1,he2⟩:=refGetV_rows l;clear HQ1 hbl1 hbs1 hsz1 hb2;cases hr:refGetV l with
  |none=>
   obtain rfl:=hno (he2 hr);rw [hr]at HG;clear hno hyes he1 he2 hr;go_wp2_with fail
   refine HG.out.mono ?_;rintro e w3 ⟨hb3,h1,-⟩;obtain⟨v,rfl⟩:=h1 rfl;have HQ3:=zz (HQ2.out.trans (hb3.mono HQ2.out.size));clear hb3 h1 HG HQ2;go_wp2_with fail
   refine(z4I w3 (HB.out.later HQ3.out)).mono ?_;rintro e w4 ⟨rfl,hb4⟩;have HQ4:=zz (HQ3.out.trans (hb4.mono HQ3.out.size));clear hb4;go_wp2_with fail
   go_ret
   exact⟨rfl,HQ4.out⟩
  |some R=>
   obtain⟨v,p,rfl,hp,-,hrs⟩:=hyes (by rw [he1 R hr]);rw [he1 R hr]at hp;rw [hr]at HG;have HRS:=zz (hrs.more (S':=fun b=>b<w2.heap.size) fun b h=>h.2);have HP:=zz hp;clear hno hyes he1 he2 hr hrs hp;go_wp2_with fail
   refine HG.out.mono ?_;rintro e w3 ⟨hb3,-,h1⟩;obtain⟨v2,p2,rfl,hp2,-,hrs2⟩:=h1 R rfl;have HQ3:=zz (HQ2.out.trans (hb3.mono HQ2.out.size));have HR3:=zz (HRS.out.later hb3);have HS3:=zz (hrs2.more (S':=fun b=>b<w3.heap.size) fun b h=>h.2);have HP2:=zz hp2;clear hb3 h1 HG HQ2 HRS hrs2 hp2;go_wp2_with fail
   refine(z4I w3 (HB.out.later HQ3.out)).mono ?_;rintro e w4 ⟨rfl,hb4⟩;have HQ4:=zz (HQ3.out.trans (hb4.mono HQ3.out.size));have HSM:=zz (zDa _ _ v v2 p p2 w4 (HR3.out.later hb4) (HS3.out.later hb4));rw [show decide (p.map (·.1)=p2.map (·.1))=true from decide_eq_true (HP.out.trans HP2.out.symm)]at HSM;clear hb4 HR3 HS3 HQ3;go_wp2_with fail
   refine HSM.out.mono ?_;rintro e w5 ⟨rfl,hb5⟩;have HQ5:=zz (HQ4.out.trans (hb5.mono HQ4.out.size));clear hb5 HSM;go_wp2_with fail
   go_ret
   exact⟨rfl,HQ5.out⟩
end
section
open Go.ChangeShapes Go.WideShapes Go.ChangeAt Go.RowKit
open Go.ChangeMaps (open_string shut_string)
theorem bytes_len(s:ByteArray):s.data.toList.length=s.size:=rfl
theorem str_len{s:ByteArray}(h:s.size≤maxLen):s.data.toList.length≤9223372036854775807:=by
 rw [bytes_len];simp only [maxLen]at h;omega
end
end Go.Proofs.YtdkobefpnjbgnaaGreatDoor
