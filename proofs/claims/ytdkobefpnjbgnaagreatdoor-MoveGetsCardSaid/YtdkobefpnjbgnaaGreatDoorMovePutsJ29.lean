/- Part 29. -/
import Derived.Test.YtdkobefpnjbgnaaGreatDoorMovePutsJ22
import Derived.Test.YtdkobefpnjbgnaaGreatDoorMovePutsJ28
namespace Go.Proofs.YtdkobefpnjbgnaaGreatDoor
set_option linter.unusedVariables false
set_option maxHeartbeats 16000000
set_option maxRecDepth 100000
section
open Go Go.RowKit
theorem z3h(k:List UInt8)(t:Nat)(w:World)(hb:BitsOk w)(hk:k.length≤64)(ht:t<U64):
 Calls Tryz.prog 60 #[.string (st k),.int .u64 (t:Int)] w fun e w'=>e= .returned (.string (st (z1f k t)))∧Below w.heap.size w w':=by
 have hlk:=z4q t hk;have HK:Hid (z1f k t=100::z1B k t):=rfl;have HP:=zz (zIi k t w hb ht hk);obtain⟨kb,hkb⟩:∃kb,z1B k t=kb:=⟨_,rfl⟩;rw [hkb]at HK HP;rw [HK.out]at hlk ⊢;have hkl:kb.length≤138:=by simpa using hlk
 clear hlk hkb HK hb;go_enter Tryz.func60,Tryz.ntmps60
 go_wp2_with fail
 refine HP.out.mono ?_;rintro e w1 ⟨A,n,c,rfl,hown,hb1⟩;have hbs:=hown.bs;have a1:¬9223372036854775807<1+kb.length:=by omega
 have HB1:=zz hb1;clear HP hown hb1;go_wp2_with (refine z0o _ rfl (.tmp 13) rfl tB tU tS hbs rfl ?_)
 go_wp2_with fail
 go_ret
 exact⟨rfl,HB1.out⟩
theorem z7b(k:List UInt8)(w:World)(hb:BitsOk w)(hk:k.length≤64):
 Calls Tryz.prog 71 #[.string (st k)] w fun e w'=>e= .returned (.string (st (z1f k 18446744073709551615)))∧Below w.heap.size w w':=by
 have HP:=zz (z3h k 18446744073709551615 w hb hk zDx);clear hb;go_enter Tryz.func71,Tryz.ntmps71
 go_wp2_with fail
 refine HP.out.mono ?_;rintro e w1 ⟨rfl,hb1⟩;go_wp2_with fail
 go_ret
 exact⟨rfl,hb1⟩
theorem zEP(k:List UInt8)(w:World)(hb:BitsOk w)(hk:k.length≤9223372036854775807):
 Calls Tryz.prog 109 #[.string (st k)] w fun e w'=>e= .returned (.string (st (z6D k)))∧Below w.heap.size w w':=by
 by_cases h:64<k.length
 ·have hl:(k.take 64).length≤64:=by rw [List.length_take];omega
  have HP:=zz (z3h (k.take 64) 0 w hb hl z6y);have HE:Hid (z6D k=z1f (k.take 64) 0++ [0]):=by rw [Hid];unfold z6D;rw [if_pos h]
  have hdl:=z4q 0 hl;obtain⟨d,hd⟩:∃d,z1f (k.take 64) 0=d:=⟨_,rfl⟩;rw [hd]at HP HE hdl;have e1:decide ((64:Int)<(k.length:Int))=true:=by rw [decide_eq_true_eq];omega
  have e2:(64:Int)≤(k.length:Int):=by omega
  have a1:¬9223372036854775807<d.length+1:=by omega
  clear hb hd hl;go_enter Tryz.func109,Tryz.ntmps109
  go_wp2_with fail
  refine HP.out.mono ?_;rintro e w1 ⟨rfl,hb1⟩;go_wp2_with fail
  go_ret
  exact⟨by rw [HE.out];rfl,hb1⟩
 ·have HP:=zz (z7b k w hb (by omega));have HE:Hid (z6D k=z1f k 18446744073709551615):=by rw [Hid];unfold z6D;rw [if_neg h]
  have e1:decide ((64:Int)<(k.length:Int))=false:=by rw [decide_eq_false_iff_not];omega
  clear hb;go_enter Tryz.func109,Tryz.ntmps109
  go_wp2_with fail
  refine HP.out.mono ?_;rintro e w1 ⟨rfl,hb1⟩;go_wp2_with fail
  go_ret
  exact⟨by rw [HE.out];rfl,hb1⟩
theorem zGF(x:Vsn)(w:World)(hv:x.v.length≤1000000000):
 Calls Tryz.prog 61 #[zEX x] w fun e w'=>e= .returned (.string (st (zAM x)))∧Below w.heap.size w w':=by
 obtain⟨t,v,gn⟩:=x;simp only at hv;have q:=(Below.refl w.heap.size w).alloc (Nat.le_refl _) (.cells #[.int .u64 (t:Int),.string (st v),.bool gn] 73);unfold zEX;simp only;have a1:¬9223372036854775807<1+v.length:=by omega
 cases gn with
 |true=>
  go_enter Tryz.func61,Tryz.ntmps61
  go_wp2_with fail
  go_ret
  exact⟨rfl,q⟩
 |false=>
  go_enter Tryz.func61,Tryz.ntmps61
  go_wp2_with fail
  go_ret
  exact⟨rfl,q⟩
theorem chgTyV:z1D Tryz.prog 127 3:=⟨⟨_,Tryz.underlying127⟩,by kernel_rfl⟩
theorem Sl.ofBlk{S:Nat→Prop}{w:World}{g:Nat}{t:TypeId}{xs:List Value}{n:Nat}(hb:Blk w g t xs.toArray)(hS:S g)(hn:xs.length=n)(hm:n≤maxLen):Sl S w 1 (.slice (some ⟨g,0,none⟩) n n) n xs:=by
 refine⟨by omega,_,n,rfl,Nat.le_refl _,hm,(fun h=>by cases h),fun _=>⟨g,0,rfl,hS,fun j u hu=> ?_⟩⟩;rw [Nat.zero_add,hb.cell j,List.getElem?_toArray];exact hu
theorem zCB{a b:Nat}(ha:a<U64)(hb:b<U64):(zDs a b).length≤20:=by
 have h1:=z06 ha;have h2:=z06 hb;unfold zDs;rw [List.length_append];omega
theorem zEI(last hor:Nat)(w:World)(h1:last<U64)(h2:hor<U64):
 Calls Tryz.prog 59 #[.int .u64 (last:Int),.int .u64 (hor:Int)] w fun e w'=>e= .returned (.agg #[.string (st ttlK),.string (st (zDs last hor)),.bool false])∧Below w.heap.size w w':=by
 have hb0:=Blk.new w 127 #[.string ⟨#[]⟩,.string ⟨#[]⟩,.bool false];have q0:=(Below.refl w.heap.size w).alloc (Nat.le_refl _) (.cells #[.string ⟨#[]⟩,.string ⟨#[]⟩,.bool false] 127);have HB0:=zz hb0;have HQ0:=zz q0;clear hb0 q0;go_enter Tryz.func59,Tryz.ntmps59
 go_upto_region 1 with(fail)
 generalize hW:w.alloc (.cells #[.string ⟨#[]⟩,.string ⟨#[]⟩,.bool false] 127)=W at*;clear hW;go_wp2_with fail
 refine(z3b W).mono ?_;rintro e w1 ⟨rfl,hw1,hb1,hs1⟩;obtain⟨G,hG⟩:∃G,W.heap.size=G:=⟨_,rfl⟩;have hgw:=HB0.out.lt;have hG1:G<w1.heap.size:=by omega
 have HB1:=zz (HB0.out.later hb1);have HQ1:=zz (HQ0.out.trans (hb1.mono HQ0.out.size));have hgl:w.heap.size<G:=by omega
 have hqs:=HQ0.out.size;rw [hG]at hw1 ⊢;have HW1:=zz hw1;have HSL:Hid (Sl (fun b=>b≠G∧b<(w1.alloc (.cells #[.int .u64 (last:Int),.int .u64 (hor:Int)] 39)).heap.size) (w1.alloc (.cells #[.int .u64 (last:Int),.int .u64 (hor:Int)] 39)) 1 (.slice (some ⟨w1.heap.size,0,none⟩) 2 2) [last,hor].length (zIN [last,hor])):=
  Sl.ofBlk (xs:=zIN [last,hor]) (Blk.new w1 _ _) ⟨by omega,by simp⟩ rfl (by simp [maxLen])
 clear hs1 hw1 hb1 HB0 HQ0 hG;go_wp2_with fail
 refine(z3r G G [] [last,hor] _ _ (HW1.out.alloc _) (by simp;omega) (Nat.le_refl _) (by intro y hy;simp at hy;rcases hy with rfl|rfl<;>assumption) (by simp) HSL.out).mono ?_;rintro e w2 ⟨rfl,hw2,hg2⟩;simp only [List.flatMap_cons,List.flatMap_nil,List.append_nil,List.nil_append]at hw2;have HW2:Hid (Wr w2 G G (zDs last hor)):=hw2;have hz2:=hg2.size;have hqq:=HQ1.out.size;have HB2:=zz ((HB1.out.alloc _).grown hg2 (by intro e;injection e with e;omega));have HQ2:=zz ((HQ1.out.alloc hqq _).trans (z0M hg2 (by omega) (by simp;omega)));have hlt:=zCB h1 h2;clear hw2 hg2 HW1 HB1 HQ1 HSL;go_wp2_with fail
 refine(z2h G G _ w2 HW2.out (by omega)).mono ?_;rintro e w5 ⟨A5,k5,c5,rfl,hown5,hbl5⟩;have hbs:=hown5.bs;have hb5:=HB2.out.later hbl5;have HQ5:=zz (HQ2.out.trans (hbl5.mono HQ2.out.size));have c0:(w5).cell? ⟨w.heap.size,0,none⟩=some (.string ⟨#[]⟩):=hb5.cell 0;have c1:(w5).cell? ⟨w.heap.size,1,none⟩=some (.string ⟨#[]⟩):=hb5.cell 1;have c2:(w5).cell? ⟨w.heap.size,2,none⟩=some (.bool false):=hb5.cell 2;have f0:=hb5.free 0;have f1:=hb5.free 1;have f2:=hb5.free 2;have HB5:=zz hb5;obtain⟨tv,htv⟩:∃tv,zDs last hor=tv:=⟨_,rfl⟩;have HTV:=zz htv;rw [htv]at hbs hlt;clear hown5 hbl5 hb5 HB2 HQ2 HW2 htv;go_wp2_with (refine z0o _ rfl (.tmp 19) rfl tB tU tS hbs rfl ?_)
 go_wp2_with fail
 exact bodyPost_ret (z26 rfl _ _ w.heap.size rfl (HB5.out.put3 _ _ _) chgTyV) rfl ⟨by rw [HTV.out];rfl,z0b HQ5.out (Nat.le_refl _) _ _ _⟩
theorem zDh(x:Wri)(w:World)(hv:x.v.length≤9223372036854775807)(hk:x.k.length≤9223372036854775807):
 Calls Tryz.prog 102 #[.agg #[.string (st x.k),.string (st x.v),.bool x.gone]] w fun e w'=>e= .returned (.int .i64 (z97 x:Int))∧Below w.heap.size w w':=by
 obtain⟨k,v,gn⟩:=x;simp only at hv hk ⊢;have q:=(Below.refl w.heap.size w).alloc (Nat.le_refl _) (.cells #[.string (st k),.string (st v),.bool gn] 49);by_cases h0:k= []
 ·subst h0;have HE:Hid (z97 ⟨[],v,gn⟩=52):=by rw [Hid];unfold z97;simp
  go_enter Tryz.func102,Tryz.ntmps102
  go_wp2_with fail
  go_ret
  exact⟨by rw [HE.out];rfl,q⟩
 have e0:(k== [])=false:=by simpa using h0
 by_cases h1:64<k.length
 ·have HE:Hid (z97 ⟨k,v,gn⟩=52):=by rw [Hid];unfold z97;rw [if_pos (.inr h1)]
  have e1:decide ((64:Int)<(k.length:Int))=true:=by rw [decide_eq_true_eq];omega
  clear h0;go_enter Tryz.func102,Tryz.ntmps102
  go_wp2_with fail
  go_ret
  exact⟨by rw [HE.out];rfl,q⟩
 have e1:decide ((64:Int)<(k.length:Int))=false:=by rw [decide_eq_false_iff_not];omega
 have HW:Hid (z97 ⟨k,v,gn⟩=if 256<v.length∨(gn=true∧v≠ [])then 53 else 0):=by
  rw [Hid];unfold z97;simp only;rw [if_neg (show ¬ (k= []∨64<k.length)from fun e=>e.elim h0 h1)]
 clear h0 h1;by_cases h2:256<v.length
 ·have HE:Hid (z97 ⟨k,v,gn⟩=53):=by rw [Hid,HW.out,if_pos (.inl h2)]
  have e2:decide ((256:Int)<(v.length:Int))=true:=by rw [decide_eq_true_eq];omega
  clear HW;go_enter Tryz.func102,Tryz.ntmps102
  go_wp2_with fail
  go_ret
  exact⟨by rw [HE.out];rfl,q⟩
 have e2:decide ((256:Int)<(v.length:Int))=false:=by rw [decide_eq_false_iff_not];omega
 cases gn with
 |false=>
  have HE:Hid (z97 ⟨k,v,false⟩=0):=by rw [Hid,HW.out,if_neg (by rintro(h|⟨h,_⟩);exact h2 h;cases h)]
  clear HW h2;go_enter Tryz.func102,Tryz.ntmps102
  go_wp2_with fail
  go_ret
  exact⟨by rw [HE.out];rfl,q⟩
 |true=>
  by_cases h3:v= []
  ·subst h3;have HE:Hid (z97 ⟨k,[],true⟩=0):=by rw [Hid,HW.out,if_neg (by rintro(h|⟨_,h⟩);exact h2 h;exact h rfl)]
   clear HW h2;go_enter Tryz.func102,Tryz.ntmps102
   go_wp2_with fail
   go_ret
   exact⟨by rw [HE.out];rfl,q⟩
  ·have HE:Hid (z97 ⟨k,v,true⟩=53):=by rw [Hid,HW.out,if_pos (.inr ⟨rfl,h3⟩)]
   have e3:(v== [])=false:=by simpa using h3
   clear HW h2 h3;go_enter Tryz.func102,Tryz.ntmps102
   go_wp2_with fail
   go_ret
   exact⟨by rw [HE.out];rfl,q⟩
end
section
open Go
variable {all:List Fd} {n f k K:Nat} {R:List (List UInt8)} {live:List Sg} {last:Nat} {out:List Rcd}
end
section
open Go
structure Sq where
 at':Nat
 base:Nat
 bs:List (List UInt8)
 sure:Option Nat
variable {l:Wl} {k:Nat} {R:List (List UInt8)} {SB:List Sq}
end
section
open Go
def others(SB:List Sq)(i:Nat):List Sq:=SB.filter fun y=>decide (y.at'≠i)
variable {l:Wl} {k:Nat} {R:List (List UInt8)} {SB:List Sq} {t s b:List UInt8} {x:Sq} {m0:Nat}
end
section
open Go
variable {l:Wl} {k:Nat} {R:List (List UInt8)} {SB:List Sq}
end
section
open Go Go.RowKit
theorem zHW(S:Nat→Prop)(v0:Value)(l:List Chg)(w:World)(hr:Ch S w v0 l)(hok:ChOk l):
 Calls Tryz.prog 105 #[v0] w fun e w'=>e= .returned (.string (st (z1S l)))∧Below w.heap.size w w':=by
 have HR:=zz hr.lt;obtain⟨A,c,rfl,hlc,hcm,hA0,hA⟩:=hr.lt.at;have HA:=zz hA;have HX:=zz hok.2;have hl11:=hok.1;have HLEN:=zz (z4b hok.2);clear hA hr hok hA0;go_enter Tryz.func105,Tryz.ntmps105
 go_wp2_with fail
 refine(z3b w).mono ?_;rintro e w1 ⟨rfl,hw1,hb1,hs1⟩;obtain⟨G,hG⟩:∃G,w.heap.size=G:=⟨_,rfl⟩;have hwG:Hid (Wr w1 G G []):=by rw [Hid,←hG];exact hw1
 have HG:=zz hG;have hGlt:G<w1.heap.size:=by omega
 have HB1:Hid (Below w.heap.size w w1):=hb1;have hwu:IntKind.u64.wrap (l.length:Int)=(l.length:Int):=z0l (by omega) (by unfold U64;omega);have hslx:Sl (fun b=>b≠G∧b<(w1.alloc (.cells #[.int .u64 (l.length:Int)] 39)).heap.size) (w1.alloc (.cells #[.int .u64 (l.length:Int)] 39)) 1 (.slice (some ⟨w1.heap.size,0,none⟩) 1 1) [l.length].length (zIN [l.length]):=Sl.new1 w1 _ _ rfl ⟨by omega,by simp⟩;have HSLX:=zz hslx;rw [hG];clear hw1 hb1 hslx hG hs1;go_wp2_with fail
 refine(z3r G G [] [l.length] _ _ (hwG.out.alloc _) (by simp;omega) (Nat.le_refl _) (by intro y hy;simp at hy;subst hy;unfold U64;omega) (by simp) HSLX.out).mono ?_;rintro e w2 ⟨rfl,hw2,hg2⟩;simp only [List.flatMap_cons,List.flatMap_nil,List.append_nil,List.nil_append]at hw2;have hz2:=hg2.size;have HB2:Hid (Below w.heap.size w w2):=(HB1.out.alloc HB1.out.size _).trans (z0M hg2 (by have:=HG.out;omega) (by have:=HB1.out.size;simp;omega));have hG2:G<w2.heap.size:=by simp at hz2;omega
 have R0:Hid (Wr w2 G G (z0A l.length++(l.take 0).flatMap z95)∧Below w.heap.size w w2∧G<w2.heap.size):=⟨by simpa using hw2,HB2.out,hG2⟩;clear hw2 hg2 HSLX hwG HB1 HB2 hz2;have hv10:(z0A l.length).length≤10:=z06 (by unfold U64;omega);go_wp2_with fail
 go_loopw [17] (fun iv wr=>∃i:Nat,iv= .int .i64 (i:Int)∧i≤l.length∧Hid (Wr wr G G (z0A l.length++(l.take i).flatMap z95)∧Below w.heap.size w wr∧G<wr.heap.size)) (fun iv _=>l.length-(intOf iv).toNat)
 case atStart=>exact⟨0,rfl,by omega,R0⟩
 case round=>
  obtain⟨i,rfl,hi,RR⟩:=hrel;clear R0;have hbl:=RR.out.2.1;have hGr:=RR.out.2.2;by_cases hil:i<l.length
  ·obtain⟨b,o,rfl,hbs,hc⟩:=HA.out (by omega);have c0:wr.cell? ⟨b,o+i*3,none⟩=some (.string (st l[i].k)):=(hbl.cell (p:=⟨b,o+i*3,none⟩) hbs).trans (hc i hil).1;have c1:wr.cell? ⟨b,o+i*3+1,none⟩=some (.string (st l[i].v)):=(hbl.cell (p:=⟨b,o+i*3+1,none⟩) hbs).trans (hc i hil).2.1;have c2:wr.cell? ⟨b,o+i*3+2,none⟩=some (.bool l[i].gone):=(hbl.cell (p:=⟨b,o+i*3+2,none⟩) hbs).trans (hc i hil).2.2;have hx:=HX.out _ (List.getElem_mem hil);have HS:Hid ((l.take (i+1)).flatMap z95=(l.take i).flatMap z95++z95 l[i]):=by
    rw [Hid,List.take_succ_eq_append_getElem hil,List.flatMap_append];simp
   have HLP:Hid (((l.take i).flatMap z95).length≤11000):=by
    have:=z4b (l:=l.take i) fun x hx=>HX.out x (List.mem_of_mem_take hx)
    rw [List.length_take]at this;have h2:min i l.length≤11:=by omega
    have h3:=Nat.mul_le_mul_left 1000 h2;rw [Hid];omega
   obtain⟨x,hx0⟩:∃x,l[i]=x:=⟨_,rfl⟩;rw [hx0]at c0 c1 c2 hx HS;clear hx0 hc;obtain⟨k,v,gn⟩:=x;simp only at c0 c1 c2 hx;have HKL:=zz hx;have hsz:=hbl.size;have q5:=(Below.refl wr.heap.size wr).alloc (Nat.le_refl _) (.cells #[.string (st k),.string (st v),.bool gn] 127);have q6:=q5.alloc q5.size (.cells #[.string (st k)] 9);have HW6:=zz (RR.out.1.later q6);have B6:=zz ((Blk.new wr 127 #[.string (st k),.string (st v),.bool gn]).alloc (.cells #[.string (st k)] 9));have HSL6:Hid (Sl (fun b=>b≠G∧b<((wr.alloc (.cells #[.string (st k),.string (st v),.bool gn] 127)).alloc (.cells #[.string (st k)] 9)).heap.size) ((wr.alloc (.cells #[.string (st k),.string (st v),.bool gn] 127)).alloc (.cells #[.string (st k)] 9)) 1 (.slice (some ⟨wr.heap.size+1,0,none⟩) 1 1) [k].length (zJg [k])):=Sl.new1 _ _ _ (by simp) ⟨by omega,by simp⟩;have HB6:=zz (hbl.trans (q6.mono hbl.size));have hz6:((wr.alloc (.cells #[.string (st k),.string (st v),.bool gn] 127)).alloc (.cells #[.string (st k)] 9)).heap.size=wr.heap.size+1+1:=by simp
   clear q5 q6 hbl RR hx;go_wp2_with fail
   generalize (wr.alloc (.cells #[.string (st k),.string (st v),.bool gn] 127)).alloc (.cells #[.string (st k)] 9)=W6 at*;refine(z3T G G _ [k] _ _ HW6.out (by omega) (Nat.le_refl _) (by intro y hy;simp at hy;subst hy;have:=HKL.out.1;omega) (by have:=HLP.out;simp only [List.length_append,List.length_cons,List.length_nil];omega) HSL6.out).mono ?_;rintro e w7 ⟨rfl,hw7,hg7⟩;simp only [List.flatMap_cons,List.flatMap_nil,List.append_nil]at hw7;have hz7:=hg7.size;have B7:=zz (B6.out.grown hg7 (by simp;omega));have HB7:=zz (HB6.out.trans (z0M hg7 (by have:=HG.out;omega) HB6.out.size));have x2:w7.cell? ⟨wr.heap.size,2,none⟩=some (.bool gn):=B7.out.cell 2;have HW7:=zz hw7;have hkl:=HKL.out.1;have hlk:=z0v k (by omega);have hvk:(z0A k.length).length≤10:=z06 (by unfold U64;omega);have hlen7:(z0A l.length++(l.take i).flatMap z95++z0Q k).length≤1000000:=by
    have:=HLP.out;simp only [List.length_append];omega
   clear hw7 hg7 HW6 HSL6 B6 HB6 c0 c1 c2;go_wp2_with fail
   refine(z6f G G _ gn w7 HW7.out (by omega) (Nat.le_refl _) (by omega)).mono ?_;rintro e w8 ⟨rfl,hw8,hg8⟩;have hz8:=hg8.size;have B8:=zz (B7.out.grown hg8 (by simp;omega));have HB8:=zz (HB7.out.trans (z0M hg8 (by have:=HG.out;omega) HB7.out.size));have y1:w8.cell? ⟨wr.heap.size,1,none⟩=some (.string (st v)):=B8.out.cell 1;have y2:w8.cell? ⟨wr.heap.size,2,none⟩=some (.bool gn):=B8.out.cell 2;have HW8:=zz hw8;have hfl:(z1N gn).length=1:=by cases gn<;>rfl
   have hlen8:(z0A l.length++(l.take i).flatMap z95++z0Q k++z1N gn).length≤1000001:=by rw [List.length_append];omega
   clear hw8 hg8 HW7 B7 HB7 x2;cases gn with
   |true=>
    have HE:Hid (z95 ⟨k,v,true⟩=z0Q k++z1N true):=by rw [Hid];unfold z95;simp
    have RF:Hid (Wr w8 G G (z0A l.length++(l.take (i+1)).flatMap z95)∧Below w.heap.size w w8∧G<w8.heap.size):=by
     refine⟨?_,HB8.out,by omega⟩;rw [HS.out,HE.out];simp only [←List.append_assoc];exact HW8.out
    clear HW8 HB8 hlen7 hlen8 HS HE;go_wp2_with fail
    go_roundw
    case rel=>exact⟨i+1,by go_num,by omega,RF⟩
    case measure=>simp [intOf];omega
   |false=>
    have hvl:=HKL.out.2 rfl;have HE:Hid (z95 ⟨k,v,false⟩=z0Q k++(z1N false++z0Q v)):=by rw [Hid];unfold z95;simp
    have HSL9:Hid (Sl (fun b=>b≠G∧b<(w8.alloc (.cells #[.string (st v)] 9)).heap.size) (w8.alloc (.cells #[.string (st v)] 9)) 1 (.slice (some ⟨w8.heap.size,0,none⟩) 1 1) [v].length (zJg [v])):=Sl.new1 _ _ _ rfl ⟨by omega,by simp⟩;have HW9:=zz (HW8.out.alloc (.cells #[.string (st v)] 9));have HB9:=zz (HB8.out.alloc HB8.out.size (.cells #[.string (st v)] 9));have hz9:(w8.alloc (.cells #[.string (st v)] 9)).heap.size=w8.heap.size+1:=by simp
    clear HW8 HB8;go_wp2_with fail
    generalize w8.alloc (.cells #[.string (st v)] 9)=W9 at*;refine(z3T G G _ [v] _ _ HW9.out (by omega) (Nat.le_refl _) (by intro y hy;simp at hy;subst hy;omega) (by simp only [List.length_cons,List.length_nil];omega) HSL9.out).mono ?_;rintro e wa ⟨rfl,hwa,hga⟩;simp only [List.flatMap_cons,List.flatMap_nil,List.append_nil]at hwa;have hza:=hga.size;have RF:Hid (Wr wa G G (z0A l.length++(l.take (i+1)).flatMap z95)∧Below w.heap.size w wa∧G<wa.heap.size):=by
     refine⟨?_,HB9.out.trans (z0M hga (by have:=HG.out;omega) HB9.out.size),by omega⟩;rw [HS.out,HE.out];simp only [←List.append_assoc];exact hwa
    clear HW9 HB9 hwa hga hlen7 hlen8 HS HE HSL9;go_wp2_with fail
    go_roundw
    case rel=>exact⟨i+1,by go_num,by omega,RF⟩
    case measure=>simp [intOf];omega
  ·obtain rfl:i=l.length:=by omega
   have hw:=RR.out.1;rw [List.take_length]at hw;have HW:Hid (Wr wr G G (z1S l)):=hw;have hlen:(z1S l).length≤1000000:=by
    unfold z1S;rw [List.length_append];have:=HLEN.out;have h3:=Nat.mul_le_mul_left 1000 hl11;omega
   clear hw RR;go_wp2_with fail
   refine(z2h G G (z1S l) wr HW.out (by omega)).mono ?_;rintro e w5 ⟨A5,k5,c5,rfl,hown5,hbl5⟩;have HB5:=zz (hbl.trans (hbl5.mono hbl.size));have hbs5:=hown5.bs;obtain⟨body,hbody⟩:∃body,z1S l=body:=⟨_,rfl⟩;have HBD:=zz hbody;rw [hbody]at hbs5;clear hbody hlen HW HLEN;clear hown5 hbl5 hbl;go_wp2_with (refine z0o _ rfl (.tmp 44) rfl tB tU tS hbs5 rfl ?_)
   go_wp2_with fail
   go_ret
   exact⟨by rw [HBD.out];rfl,HB5.out⟩
def stKs:List (Option TypeId):= [some 219,some 223,some 5,some 213,some 118]
theorem Ptp.sameK{ks:List (Option TypeId)}{Z Z':Pz}{w w':World}{P:Pgr}(s:Ptp Z w Z' w')(p:Pg w Z P)(h1:some 211∉ks)(h2:some 249∉ks)(h3:some 164∉ks)(h0:none∉ks)(h4:some 291∉ks):SameK ks w w':=fun b t ht hb=>
 s.turn.block b (z2Z hb) fun e=>by
  rcases p.kinds e with h|h|h|h|h
  ·exact SameK.not h h1 hb ht
  ·exact SameK.not h h2 hb ht
  ·exact SameK.not h h3 hb ht
  ·exact SameK.not h h0 hb ht
  ·exact SameK.not h h4 hb ht
theorem Lg.tree{Z:Pz}{w w':World}{P P':Pgr}{gl:Nat}{l:Wl}(g:Lg w gl Z.h l)(s:Ptp Z w Z w')(p:Pg w Z P)(p':Pg w' Z P')(hD:P'.D=P.D)(hl:l.D=P.D):Lg w' gl Z.h l:=by
 obtain⟨lv,sv,g⟩:=g;have hs:SameK stKs w w':=s.sameK p (by decide) (by decide) (by decide) (by decide) (by decide);exact⟨lv,sv,by rw [hl,←hD];exact p'.dk,g.lb.sameK hs (by decide),KSl.same g.live hs (by decide),g.str.same hs (by decide)⟩
def Pgr.on(P:Pgr)(D:Dsk):Pgr:={P with D:=D}
def Pz.on(Z:Pz)(h:Zn):Pz:={Z with h:=h}
theorem Wrt.at{w w':World}{b:Nat}{f:SF}(h:Wrt w b f)(hb:w'.heap[b]? =w.heap[b]?)(hs:SameK [some 5] w w'):Wrt w' b f:=by
 refine⟨h.in90,?_⟩;obtain⟨m,hm,hr⟩:=h.mp;exact⟨m,hm.at hb,fun a ha=>(hr a ha).keep fun _ _ h=>h.same hs (by decide)⟩
theorem Pg.log{Z:Pz}{w w':World}{P:Pgr}{gl:Nat}{h':Zn}{D':Dsk}{cs:Array Value}(p:Pg w Z P)(k:Dk w' h' D')(m:Mtp Z.h gl w h' w')(hl:Blk w gl 219 cs):Pg w' (Z.on h') (P.on D'):=by
 have hs:SameK [some 249,some 211,some 5] w w':=m.sameL p.dk hl (by decide) (by decide) (by decide) (by decide);have hk:∀b,b<w.heap.size→z0E w b=some none→¬Z.h.has b→w'.heap[b]? =w.heap[b]? :=fun b hb hk hn=>m.turn.block b hb (by
  rintro(e|e)
  ·exact hn e
  ·subst e;rw [z0F hl]at hk;cases hk)
 have hn:∀b,b<w.heap.size→¬Z.h.has b→¬h'.has b:=fun b hb hn e=>(m.has b e).elim hn fun h=>by omega
 have hb:=p.blk.sameK hs (by decide);have hm:=p.mt.blk.sameK hs (by decide);exact⟨k,⟨by show Blk w' Z.gm _ #[.pointer (some ⟨h'.g,0,none⟩),_,_,_];rw [m.g];exact hm⟩,by show Blk w' Z.g _ #[.pointer (some ⟨h'.g,0,none⟩),_,_,_,_,_,_,_];rw [m.g];exact hb,
  p.tb.at (hk _ p.tb.lt p.tb.kind p.m1),p.wr.at (hk _ p.wr.lt p.wr.kind p.m2) (hs.less (by decide)),p.gn.at (hk _ p.gn.lt p.gn.kind p.m3),p.n1,p.n2,p.n3,hn _ p.tb.lt p.m1,hn _ p.wr.lt p.m2,hn _ p.gn.lt p.m3⟩
theorem zIk{w:World}{gl hg:Nat}{a:Int}{n size:Nat}{lv sv:Value}{last synced:Nat}(h:BitsOk w)(hl:Lb w gl hg a n size lv sv last synced):gl≠0:=by
 rintro rfl;have h0:=h 0 (by omega);rw [Blk.cell hl 0]at h0;cases h0
theorem Tg.log{Z:Pz}{w w':World}{P:Pgr}{c:Int→List UInt8}{g gl hg n size last synced:Nat}{a:Int}{lv sv:Value}{h':Zn}{D':Dsk}(t:Tg w g Z P c)(k:Dk w' h' D')(m:Mtp Z.h gl w h' w')(hl:Lb w gl hg a n size lv sv last synced)(hok:D'.Ok)(hst:z4F D' P.a P.tb c):Tg w' g (Z.on h') (P.on D') c:=by
 have hs:SameK [some 213] w w':=m.sameL t.pg.dk hl (by decide) (by decide) (by decide) (by decide);have hz:¬Z.h.has 0:=fun h=>t.z0 (.inr (.inr (.inr (.inr (.inr h)))))
 refine⟨t.pg.log k m hl,t.blk.sameK hs (by decide),⟨hok,hst,t.pr.wlen,t.pr.a0,t.pr.a1⟩,fun i hi=> ?_,?_⟩
 ·have hb:=m.turn.block 0 t.bits.pos (by
   rintro(e|e)
   ·exact hz e
   ·exact zIk t.bits hl e.symm)
  rw [←t.bits i hi];unfold World.cell?;rw [hb]
 ·have hp:=t.bits.pos;rintro(e|e|e|e|e|e)
  ·exact t.z0 (.inl e)
  ·exact t.z0 (.inr (.inl e))
  ·exact t.z0 (.inr (.inr (.inl e)))
  ·exact t.z0 (.inr (.inr (.inr (.inl e))))
  ·exact t.z0 (.inr (.inr (.inr (.inr (.inl e)))))
  ·rcases m.has 0 e with h|h
   ·exact hz h
   ·omega
structure Sop(gl:Nat)(Z:Pz)(w:World)(Z':Pz)(w':World):Prop where
 g:Z'.g=Z.g
 hg:Z'.h.g=Z.h.g
 turn:Turn (fun b=>Z.has b∨b=gl) w w'
 has:∀b,Z'.has b→Z.has b∨w.heap.size≤b
section
variable {gl:Nat} {Z Z1 Z':Pz} {w w1 w':World}
theorem Sop.below(hb:Below w.heap.size w w'):Sop gl Z w Z w':=⟨rfl,rfl,Turn.of_below hb,fun _ h=> .inl h⟩
theorem Sop.trans(a:Sop gl Z w Z1 w1)(b:Sop gl Z1 w1 Z' w'):Sop gl Z w Z' w':=
 ⟨b.g.trans a.g,b.hg.trans a.hg,a.turn.trans b.turn (fun x hx=>hx.elim (fun h=>(a.has x h).elim (fun h=> .inl (.inl h)) .inr) fun h=> .inl (.inr h)),fun x hx=>(b.has x hx).elim (a.has x) fun h=> .inr (Nat.le_trans a.turn.size h)⟩
theorem Sop.ptp(s:Ptp Z w Z' w'):Sop gl Z w Z' w':=⟨s.g,s.hg,s.turn.mono fun b hb _=> .inl hb,s.has⟩
theorem Sop.mtp{h':Zn}(m:Mtp Z.h gl w h' w'):Sop gl Z w (Z.on h') w':=⟨rfl,m.g,m.turn.mono fun b hb _=>hb.elim (fun h=> .inl (.inr (.inr (.inr (.inr (.inr h)))))) .inr,fun b hb=>by
 rcases hb with e|e|e|e|e|e
 ·exact .inl (.inl e)
 ·exact .inl (.inr (.inl e))
 ·exact .inl (.inr (.inr (.inl e)))
 ·exact .inl (.inr (.inr (.inr (.inl e))))
 ·exact .inl (.inr (.inr (.inr (.inr (.inl e)))))
 ·exact(m.has b e).imp (fun h=> .inr (.inr (.inr (.inr (.inr h))))) id⟩
end
structure Sto(w:World)(gs g gl:Nat)(Z:Pz)(P:Pgr)(c:Int→List UInt8)(l:Wl):Prop where
 blk:Blk w gs 118 #[.pointer (some ⟨g,0,none⟩),.pointer (some ⟨Z.g,0,none⟩),.pointer (some ⟨gl,0,none⟩)]
 T:Tg w g Z P c
 lg:Lg w gl Z.h l
 D:l.D=P.D
 ok:l.Ok
section
variable {gs g gl:Nat} {Z:Pz} {w w':World} {P P':Pgr} {c:Int→List UInt8} {l l':Wl}
theorem Sto.later(s:Sto w gs g gl Z P c l)(hb:Below w.heap.size w w'):Sto w' gs g gl Z P c l:=⟨s.blk.later hb,s.T.later hb,s.lg.later hb,s.D,s.ok⟩
theorem Sto.tree(s:Sto w gs g gl Z P c l)(d:z1i g Z P' c w w')(hD:P'.D=P.D):Sto w' gs g gl Z P' c l:=by
 have hs:SameK stKs w w':=d.2.sameK s.T.pg (by decide) (by decide) (by decide) (by decide) (by decide);exact⟨s.blk.sameK hs (by decide),d.1,s.lg.tree d.2 s.T.pg d.1.pg hD s.D,by rw [hD];exact s.D,s.ok⟩
theorem Sto.log(s:Sto w gs g gl Z P c l){h':Zn}(hl:Lg w' gl h' l')(m:Mtp Z.h gl w h' w')(hok:l'.Ok)(hst:z4F l'.D P.a P.tb c):Sto w' gs g gl (Z.on h') (P.on l'.D) c l':=by
 obtain⟨lv,sv,v⟩:=s.lg;have hs:SameK [some 118] w w':=m.sameL s.T.pg.dk v.lb (by decide) (by decide) (by decide) (by decide);obtain⟨_,_,v'⟩:=id hl;exact⟨s.blk.sameK hs (by decide),s.T.log v'.dk m v.lb hok.dok hst,hl,rfl,hok⟩
end
noncomputable def z2u(P:Pgr)(c:Int→List UInt8)(L:List Cel)(l:Wl)(x:List Chg):Pgr×Wl×Nat×Nat:=
 if z4X P x=0 then
  (if(z0P l (z1S x)).2.2=0 then(chgsP c (P.on (z0P l (z1S x)).1.D) L x,(z0P l (z1S x)).1,(z0P l (z1S x)).2.1,0)
  else(P.on (z0P l (z1S x)).1.D,(z0P l (z1S x)).1,0,(z0P l (z1S x)).2.2))
 else(P,l,0,z4X P x)
def zBk(P:Pgr)(c:Int→List UInt8)(l:Wl)(t:List UInt8):Prop:=z4F (z0P l t).1.D P.a P.tb c
structure StoDone(w w':World)(gs g gl:Nat)(Z:Pz)(P':Pgr)(c:Int→List UInt8)(l':Wl)(Z':Pz):Prop where
 s:Sto w' gs g gl Z' P' c l'
 o:Sop gl Z w Z' w'
theorem Kin.putT(P:Pgr)(l:List TStp)(x:Cel):Kin P (putT P l x).1:=by
 unfold Go.Proofs.YtdkobefpnjbgnaaGreatDoor.putT
 split
 ·exact Kin.refl P
 ·split
  ·exact Kin.refl P
  ·split
   ·exact Kin.refl P
   ·split
    ·exact Kin.refl P
    ·exact Kin.up _ _ _ _
theorem Kin.deleteT(P:Pgr)(c:Int→List UInt8)(l:List TStp)(k:List UInt8):Kin P (deleteT P c l k).1:=by
 unfold Go.Proofs.YtdkobefpnjbgnaaGreatDoor.deleteT
 split
 ·exact Kin.refl P
 ·split
  ·exact Kin.down _ _ _ _ _
  ·exact Kin.refl P
theorem Kin.chgP(P:Pgr)(c:Int→List UInt8)(L:List Cel)(x:Chg):Kin P (chgP P c L x):=by
 unfold Go.Proofs.YtdkobefpnjbgnaaGreatDoor.chgP
 split
 ·split
  ·exact Kin.deleteT _ _ _ _
  ·exact Kin.refl P
 ·exact Kin.putT _ _ _
theorem chgP_D(P:Pgr)(c:Int→List UInt8)(L:List Cel)(x:Chg):(chgP P c L x).D=P.D:=(Kin.chgP P c L x).D
theorem zAk(c:Int→List UInt8):∀ (l:List Chg) (P:Pgr) (L:List Cel),(chgsP c P L l).D=P.D
 | [],P,L=>rfl
 |x::r,P,L=>by
  rw [chgsP,zAk c r,chgP_D]
theorem Mtp.behind{h h':Zn}{g:Nat}{w w1 w':World}(m:Mtp h g w1 h' w')(hb:Below w.heap.size w w1):Mtp h g w h' w':=
 ⟨m.g,(Turn.of_below hb).trans m.turn fun x hx=> .inl hx,fun x hx=>(m.has x hx).imp id fun h=>Nat.le_trans hb.size h⟩
def VApl(w:World)(gl:Nat)(h:Zn)(r:Wl×Nat×Nat):VP:=fun v wg=>v= .tuple #[.int .u64 (r.2.1:Int),.int .i64 (r.2.2:Int)]∧∃h',Lg wg gl h' r.1∧Mtp h gl w h' wg
theorem VApl.stays{w:World}{gl:Nat}{h:Zn}{r:Wl×Nat×Nat}:Stays (VApl w gl h r):=fun v w1 w2 hb ⟨he,h',hl,hm⟩=>
 ⟨he,h',hl.later hb,hm.g,hm.turn.trans (Turn.of_below hb) fun x hx=> .inl hx,hm.has⟩
theorem zE9{l:List Chg}(h:ChOk l):(z1S l).length≤100000:=by
 have:=z4b h.2;unfold z1S;rw [List.length_append];have h2:=z5C 8 l.length (by have:=h.1;omega);have h3:=h.1;omega
theorem zEt{Q:Prm}(hQ:Q.Ok)(gs g gl:Nat)(Z:Pz)(P:Pgr)(c:Int→List UInt8)(L:List Cel)(l:Wl)(x:List Chg)(w:World)(v0:Value)(hs:Sto w gs g gl Z P c l)(hr:Ch (fun b=>¬Z.has b∧b≠gl) w v0 x)(hx:x.length≤1000000∧∀y∈x,y.k.length≤65536∧y.v.length≤65536)
 (hp:l.D.pend.length≤800000) (hk:z4X P x=0→zBk P c l (z1S x)∧((z0P l (z1S x)).2.2=0→z4x Q c (P.on (z0P l (z1S x)).1.D) L x)) (hdl:∀y∈x,y.gone=true→zCX Q):
 Calls Tryz.prog 62 #[.pointer (some ⟨gs,0,none⟩),v0] w fun e w'=>e= .returned (.tuple #[.int .u64 ((z2u P c L l x).2.2.1:Int),.int .i64 ((z2u P c L l x).2.2.2:Int)])∧∃Z',StoDone w w' gs g gl Z (z2u P c L l x).1 c (z2u P c L l x).2.1 Z':=by
 have HS:=zz hs;have HR:=zz hr;have HK:=zz hk;obtain⟨A,c0,rfl,hxc,hcm,-,-⟩:=hr.at;obtain⟨R,hR⟩:∃R,z2u P c L l x=R:=⟨_,rfl⟩;have HRR:=zz hR;rw [hR];have hmy:=zC0 gs Z P _ _ x w hs.T.pg hs.blk hr hx.1 hx.2;have HMY:=zz hmy;have HDL:=zz hdl;clear hmy hs hr hk hR hx hdl;go_enter Tryz.func62,Tryz.ntmps62
 go_wp2_with fail
 refine HMY.out.mono ?_;rintro e w1 ⟨rfl,hb1⟩;clear HMY;have HS1:=zz (HS.out.later hb1);have HR1:Hid (Ch (fun b=>(¬Z.has b∧b≠gl)∧b<w1.heap.size) w1 (.slice A x.length c0) x):=by
  have h1:Ch (fun b=>(¬Z.has b∧b≠gl)∧b<w.heap.size) w (.slice A x.length c0) x:=Sl.lt HR.out (by omega);have hsz:=hb1.size;exact(Sl.below h1 hb1 fun b h=>h.2).more fun b h=>⟨h.1,by omega⟩
 have HB1:=zz hb1;clear hb1 HR HS;by_cases hm:z4X P x=0
 ·have HK2:=zz (HK.out hm);obtain⟨r,hr0⟩:∃r,z0P l (z1S x)=r:=⟨_,rfl⟩;have HRE:Hid ((if r.2.2=0 then(chgsP c (P.on r.1.D) L x,r.1,r.2.1,0)else(P.on r.1.D,r.1,0,r.2.2))=R):=by
   rw [Hid,←HRR.out];unfold z2u;rw [if_pos hm,hr0]
  have hz:((z4X P x:Nat):Int)=0:=by omega
  rw [hz];have HK3:Hid (z4F r.1.D P.a P.tb c∧(r.2.2=0→z4x Q c (P.on r.1.D) L x)):=by
   have:=HK2.out;unfold zBk at this;rw [hr0]at this;exact this
  have HRO:=zz hr0;have HCO:=zz (zFA hm);have HOK:Hid (r.1.Ok):=by rw [←hr0];exact Wl.Ok.append HS1.out.ok _
  clear hz hr0 hm HK HK2 HRR;go_upto_region 4 with(fail)
  have HSH:Hid (∀wg,Below w1.heap.size w1 wg→Calls Tryz.prog 105 #[.slice A x.length c0] wg fun e w'=>e= .returned (.string (st (z1S x)))∧Below wg.heap.size wg w'):=fun wg hwg=>zHW _ _ x wg (Sl.below HR1.out hwg fun b h=>h.2) HCO.out
  have HAP:Hid (∀wg,Below w1.heap.size w1 wg→Calls Tryz.prog 104 #[.pointer (some ⟨gl,0,none⟩),.string (st (z1S x))] wg fun e w'=>∃v,e= .returned v∧Turn (fun b=>Z.h.has b∨b=gl) wg w'∧VApl w1 gl Z.h r v w'):=fun wg hwg=>by
   have hsl:=zE9 HCO.out;refine(z9l Z.h l gl (z1S x) wg (HS1.out.lg.later hwg) HS1.out.ok (HS1.out.T.bits.later hwg) (by omega) hp).mono ?_;rintro e w' ⟨rfl,h',hlg,hm⟩;rw [HRO.out]at hlg ⊢;exact⟨_,rfl,hm.turn,rfl,h',hlg,hm.behind hwg⟩
  have HGL:Hid (∃cs,Blk w1 gl 219 cs):=by
   obtain⟨lv,sv,v⟩:=HS1.out.lg;exact⟨_,v.lb⟩
  have HK4:Hid (∀wg,Turn (trE [TrP.of 6 (fun b=>Z.h.has b∨b=gl)]) w1 wg→Blk wg gs 118 #[.pointer (some ⟨g,0,none⟩),.pointer (some ⟨Z.g,0,none⟩),.pointer (some ⟨gl,0,none⟩)]):=fun wg h=>HS1.out.blk.turn h (by
   rintro⟨p,hp,hF⟩;simp only [List.mem_cons,List.not_mem_nil,or_false]at hp;subst hp;rcases hF with hF|hF
   ·exact Pz.not_kind HS1.out.T.pg (z0F HS1.out.blk) (by decide) (by decide) (by decide) (by decide) (.inr (.inr (.inr (.inr (.inr hF)))))
   ·obtain⟨cs,hcs⟩:=HGL.out;exact absurd hF (Blk.ne HS1.out.blk hcs (by decide)))
  clear HGL;refine z3P [TrP.of 6 (fun b=>Z.h.has b∨b=gl)] (by kernel_rfl) (by kernel_rfl) ?_;apply Exists.intro;apply And.intro
  ·repeat(first
    |(apply z53 rfl
      intro K hK;go_simp;refine hK _ ?_;clear hK K)
    |(apply z8P rfl (by kernel_rfl)
      ·intro wg hwg _;have hb:=HK4.out wg hwg;have s2:wg.cell? ⟨gs,2,none⟩=some (.pointer (some ⟨gl,0,none⟩)):=hb.cell 2;unfold z07;go_simp
       first
        |exact z00 _ _
        |(fail)
      intro K hK;go_simp;refine hK _ ?_;clear hK K))
   apply zHx (c:= .string (st (z1S x))) rfl (by kernel_rfl)
   ·intro wg hwg hf;have hwg2:=z60 (fun p hp=>by simp only [List.mem_cons,List.not_mem_nil,or_false]at hp;subst hp;exact .inr (by kernel_rfl)) hwg;unfold z07;go_simp;exact z0C (HSH.out wg hwg2)
   intro K hK;go_simp;refine hK _ ?_;clear hK K;apply z5E (V:=VApl w1 gl Z.h r) (TrP.of 6 (fun b=>Z.h.has b∨b=gl));exact rfl
   kernel_rfl
   ·intro wg hwg hf;have hwg2:=z60 (fun p hp=>by simp only [List.mem_cons,List.not_mem_nil,or_false]at hp;subst hp;exact .inl rfl) hwg;clear hwg hf;unfold steps;go_simp;apply z2I;exact HAP.out wg hwg2
   intro xv hxv K hK;obtain⟨wx,hwx,hbx⟩:=hxv;have hbo:=hbx;obtain⟨rfl,_⟩:=hbo;go_simp;refine hK _ ?_;clear hK K hbx hwx
   repeat(first
    |(apply z53 rfl
      intro K hK;go_simp;refine hK _ ?_;clear hK K)
    |(apply z8P rfl (by kernel_rfl)
      ·intro wg hwg _
       skip
       unfold z07;go_simp
       first
        |exact z00 _ _
        |(fail)
      intro K hK;go_simp;refine hK _ ?_;clear hK K))
   refine z8j (fun wf hE hf=> ?_);have g6:=hf 6 _ _ rfl;clear hf hE;obtain⟨_,h',hlg,hm⟩:=g6;have H6:=zz (HS1.out.log hlg hm HOK.out HK3.out.1);have HO6:Hid (Sop gl Z w (Z.on h') wf):=(Sop.below HB1.out).trans (Sop.mtp hm);have HC6:Hid (Ch (fun b=>¬ (Z.on h').has b) wf (.slice A x.length c0) x):=by
    have h1:Ch (fun b=>(¬Z.has b∧b≠gl)∧b<w1.heap.size) wf (.slice A x.length c0) x:=Sl.keep HR1.out fun b o hb=>World.cell?_of_block (hm.turn.block b hb.2 (by
     rintro(e|e)
     ·exact hb.1.1 (.inr (.inr (.inr (.inr (.inr e)))))
     ·exact hb.1.2 e))
    exact Sl.more h1 fun b hb e=>by
     rcases(Sop.mtp hm).has b e with h2|h2
     ·exact hb.1.1 h2
     ·omega
   have HKR:=zz HK3.out.2;have HRE2:=HRE;clear hlg hm HS1 HR1 HB1 HK3 HK4 HAP HSH HRE HRO;by_cases hz:r.2.2=0
   ·have hz1:((r.2.2:Nat):Int)=0:=by omega
    have HRE:Hid ((chgsP c (P.on r.1.D) L x,r.1,r.2.1,0)=R):=by
     rw [Hid,←HRE2.out,if_pos hz]
    have HKK:=zz (HKR.out hz);rw [hz1];clear hz hz1 HRE2 HKR;go_wp2_with fail
    refine(zFx hQ gs g (Z.on h') (P.on r.1.D) c L x wf _ H6.out.T H6.out.blk HC6.out HKK.out (by have:=HCO.out.1;omega) HDL.out).mono ?_;rintro e w8 ⟨rfl,hd8⟩;have H8:=zz (H6.out.tree hd8 (zAk _ _ _ _));have HO8:Hid (Sop gl Z w (Z.on h') w8):=HO6.out.trans (Sop.ptp hd8.2);clear hd8 H6 HO6 HC6 HKK;go_wp2_with fail
    go_ret2
    rw [←HRE.out];exact⟨rfl,_,H8.out,HO8.out⟩
   ·have hz1:(((r.2.2:Nat):Int) != 0)=true:=by simp;omega
    have HRE:Hid ((P.on r.1.D,r.1,0,r.2.2)=R):=by
     rw [Hid,←HRE2.out,if_neg hz]
    clear hz HRE2 HKR HC6;go_wp2_with fail
    go_ret2
    rw [←HRE.out];exact⟨rfl,_,H6.out,HO6.out⟩
  ·apply And.intro
   ·repeat(first
     |exact trivial
     |(refine⟨zEk _ _,?_⟩)
     |(refine⟨zJV VApl.stays (fun p hp hn hw=>by simp only [List.mem_cons,List.not_mem_nil,or_false]at hp;subst hp;exact absurd rfl hn),?_⟩)
     )
   ·rfl
 ·have HRE:Hid ((P,l,0,z4X P x)=R):=by
   rw [Hid,←HRR.out];unfold z2u;rw [if_neg hm]
  obtain⟨m,hm0⟩:∃m,z4X P x=m:=⟨_,rfl⟩;rw [hm0]at hm HRE ⊢;have hz:((m:Int) != 0)=true:=by simp;omega
  clear HRR HK hm0;go_wp2_with fail
  go_ret2
  rw [←HRE.out];exact⟨rfl,Z,HS1.out,Sop.below HB1.out⟩
end
end Go.Proofs.YtdkobefpnjbgnaaGreatDoor
