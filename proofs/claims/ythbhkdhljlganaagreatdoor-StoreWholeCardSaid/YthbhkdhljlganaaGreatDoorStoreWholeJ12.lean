/- Part 12. -/
import Derived.Test.YthbhkdhljlganaaGreatDoorStoreWholeJ5
import Derived.Test.YthbhkdhljlganaaGreatDoorStoreWholeJ11
namespace Go.Proofs.YthbhkdhljlganaaGreatDoor
set_option linter.unusedVariables false
set_option maxHeartbeats 16000000
set_option maxRecDepth 100000
section
open Go Go.RowKit
theorem Ro.nil(w:World)(B:Nat):Ro w B (.slice none 0 0) []:=World.ownsRow_nil w B _ 2
theorem Ro.later{w w':World}{B:Nat}{v:Value}{rs:List (Nat×List UInt8)}(h:Ro w B v rs)(hb:Below w.heap.size w w'):Ro w' B v rs:=by
 obtain⟨h1,h2⟩:=h;refine⟨h1,?_⟩;rcases h2 with h2|⟨g,cap,cur,hv,hg,hh,r⟩
 ·exact .inl h2
 ·exact .inr ⟨g,cap,cur,hv,hg,(hb.block g (lt_of_block hh)).trans hh,r⟩
theorem Ro.len{w:World}{B:Nat}{A:Option Addr}{k c:Nat}{rs:List (Nat×List UInt8)}(h:Ro w B (.slice A k c) rs):k=rs.length:=z0Q h
theorem z66{k:Nat}{l:List UInt8}{f:Nat}(h:z0i l=none):z0b (k+1) l f=([],0):=by rw [z0b,h]
theorem z5C{k:Nat}{l:List UInt8}{f:Nat}{r:Nat×List UInt8}{n:Nat}(h:z0i l=some (r,n))(hq:¬r.1=f%U64):z0b (k+1) l f=([],0):=by
 rw [z0b,h];simp only;rw [if_neg hq]
theorem z5w{k:Nat}{l:List UInt8}{f:Nat}{r:Nat×List UInt8}{n:Nat}(h:z0i l=some (r,n))(hq:r.1=f%U64):
 z0b (k+1) l f=(r::(z0b k (l.drop n) (f+1)).1,n+(z0b k (l.drop n) (f+1)).2):=by
 rw [z0b,h];simp only;rw [if_pos hq]
structure ScSt(l:List UInt8)(first i:Nat)(rs:List (Nat×List UInt8))(a:Nat):Prop where
 le:a≤l.length
 len:rs.length≤i
 all:z0b l.length l first=(rs++(z0b (l.length-i) (l.drop a) (first+i)).1,a+(z0b (l.length-i) (l.drop a) (first+i)).2)
theorem ScSt.zero(l:List UInt8)(first:Nat):ScSt l first 0 [] 0:=⟨Nat.zero_le _,Nat.le_refl _,by simp⟩
theorem ScSt.stop{l:List UInt8}{first i:Nat}{rs:List (Nat×List UInt8)}{a:Nat}(h:ScSt l first i rs a)(hi:i<l.length)(hn:z0b (l.length-i-1+1) (l.drop a) (first+i)=([],0)):z0b l.length l first=(rs,a):=by
 rw [h.all,show l.length-i=l.length-i-1+1 by omega,hn];simp
theorem ScSt.next{l:List UInt8}{first i:Nat}{rs:List (Nat×List UInt8)}{a:Nat}(h:ScSt l first i rs a)(hi:i<l.length){r:Nat×List UInt8}{n:Nat}(hg:z0i (l.drop a)=some (r,n))(hq:r.1=(first+i)%U64):ScSt l first (i+1) (rs++ [r]) (a+n):=by
 have hn:=z5a hg;rw [List.length_drop]at hn;refine⟨by have:=h.le;omega,by have:=h.len;rw [List.length_append,List.length_singleton];omega,?_⟩;rw [h.all,show l.length-i=l.length-(i+1)+1 by omega,z5w hg hq,List.drop_drop,←Nat.add_assoc];simp [Nat.add_assoc]
theorem ScSt.end{l:List UInt8}{first:Nat}{rs:List (Nat×List UInt8)}{a:Nat}(h:ScSt l first l.length rs a):z0b l.length l first=(rs,a):=by
 rw [h.all,Nat.sub_self,z0b];simp
theorem z4i(a b:Nat):IntKind.u64.wrap ((a:Int)+(b:Int))=(((a+b)%U64:Nat):Int):=by
 simp only [IntKind.wrap,IntKind.bits,IntKind.signed];rw [Int.natCast_emod];rfl
theorem zFn(S:Nat→Prop)(v0:Value)(l:List UInt8)(first:Nat)(w:World)(hl:l.length≤1099511627776)(hf:first<U64)(hr:Bs S w v0 l):
 Calls Tryz.prog 138 #[v0,.int .u64 first] w fun e w'=>∃A k c,e= .returned (.tuple #[.slice A k c,.int .i64 ((z0b l.length l first).2:Int)])∧Ro w' w.heap.size (.slice A k c) (z0b l.length l first).1∧Below w.heap.size w w':=by
 have HR:Hid (Bs (fun b=>b<w.heap.size) w v0 l):=(Sl.lt hr (by omega)).more (fun _ h=>h.2);obtain⟨A,c,rfl,hlc,hcm,hA0,hA⟩:=hr.at;have HA:=zz hA;have hmf:=z0R Tryz.prog;have HF:Hid (first<U64):=hf;have R0:Blk ((w.alloc (.cells #[.slice none 0 0] 127)).alloc (.cells #[.int .i64 ((0:Nat):Int)] 3)) w.heap.size 127 #[.slice none 0 0]∧
  Blk ((w.alloc (.cells #[.slice none 0 0] 127)).alloc (.cells #[.int .i64 ((0:Nat):Int)] 3)) (w.heap.size+1) 3 #[.int .i64 ((0:Nat):Int)]∧
  Below w.heap.size w ((w.alloc (.cells #[.slice none 0 0] 127)).alloc (.cells #[.int .i64 ((0:Nat):Int)] 3)):=by
  refine⟨(Blk.new w _ _).alloc _,?_,((Below.refl _ _).alloc (Nat.le_refl _) _).alloc (by simp) _⟩;have:=Blk.new (w.alloc (.cells #[.slice none 0 0] 127)) 3 #[.int .i64 ((0:Nat):Int)];simpa using this
 clear hA hr hA0 hf;go_enter Tryz.func138,Tryz.ntmps138
 go_wp2_with fail
 go_loopw [16] (fun iv wr=>∃ (i:Nat) (A':Option Addr) (k' c':Nat) (rs:List (Nat×List UInt8)) (a:Nat),iv= .int .i64 (i:Int)∧i≤l.length∧Blk wr w.heap.size 127 #[.slice A' k' c']∧Blk wr (w.heap.size+1) 3 #[.int .i64 (a:Int)]∧
  Ro wr w.heap.size (.slice A' k' c') rs∧ScSt l first i rs a∧Below w.heap.size w wr) (fun iv _=>l.length-(intOf iv).toNat)
 case atStart=>exact⟨0,none,0,0,[],0,rfl,by omega,R0.1,R0.2.1,Ro.nil _ _,ScSt.zero _ _,R0.2.2⟩
 case round=>
  obtain⟨i,A',k',c',rs,a,rfl,hi,hbl,hba,hro,hst,hbw⟩:=hrel;clear R0;have hsz:=hbw.size;by_cases hil:i<l.length
  ·obtain⟨b,o,rfl,_,_⟩:=HA.out (by omega);have hal:=hst.le;have hst0:=hst.len;have e2:Hid (a+(l.drop a).length≤l.length):=by rw [Hid,List.length_drop];omega
   have c1:wr.cell? ⟨w.heap.size+1,0,none⟩=some (.int .i64 (a:Int)):=hba.cell 0;have hcut:=Bs.cut (Sl.below HR.out hbw (fun _ h=>h)) hal;have HST:=zz hst;have HBL:=zz hbl;have HBA:=zz hba;have HRO:=zz hro;have hdl:(l.drop a).length≤1099511627776:=by rw [List.length_drop];omega
   clear hst hbl hba hro;obtain⟨m,hm⟩:∃m,l.drop a=m:=⟨_,rfl⟩;have HM:=zz hm;rw [hm]at hcut hdl e2;clear hm;by_cases hca:c=a
   case' pos=>
    rw [if_pos hca]at hcut;subst hca;rw [Nat.sub_self,show l.length-c=0 by omega]at hcut;have HC:=zz hcut;clear hcut;go_wp2_with fail
    refine(z4y _ _ m wr hdl HC.out).mono ?_
   case' neg=>
    rw [if_neg hca]at hcut;have HC:=zz hcut;clear hcut;go_wp2_with fail
    refine(z4y _ _ m wr hdl HC.out).mono ?_
   all_goals
    rintro e w1 ⟨rfl,hbl1⟩;cases hg:z0i m with
    |none=>
     have HE:=zz (HST.out.stop hil (z66 (by rw [HM.out];exact hg)));have HRO1:=zz (HRO.out.later hbl1);have hb1:=(HBL.out.later hbl1).alloc (.cells #[.int .u64 0,.string (st [])] 131);have hb2:=(HBA.out.later hbl1).alloc (.cells #[.int .u64 0,.string (st [])] 131);have e0:(w1.alloc (.cells #[.int .u64 0,.string (st [])] 131)).cell? ⟨w.heap.size,0,none⟩=some (.slice A' k' c'):=hb1.cell 0;have e1:=hb2.cell 0;have q1:=hbw.trans (hbl1.mono hsz);unfold z7z zCg;clear hbl1 c1 hg;go_wp2_with fail
     go_quiet (fail)
     go_wp2_with fail
     go_ret2
     rw [HE.out];exact⟨A',k',c',rfl,HRO1.out.later (below_drewN ((Below.refl _ _).alloc (Nat.le_refl _) _) _),below_drewN (q1.alloc q1.size _) _⟩
    |some rn=>
     obtain⟨⟨q,t⟩,n⟩:=rn;have hgl:=z5a hg;have HRO1:=zz (HRO.out.later hbl1);have hb1:=(HBL.out.later hbl1).alloc (.cells #[.int .u64 (q:Int),.string (st t)] 131);have hb2:=(HBA.out.later hbl1).alloc (.cells #[.int .u64 (q:Int),.string (st t)] 131);have q1:=hbw.trans (hbl1.mono hsz);have hwr:IntKind.u64.wrap ((first:Int)+(i:Int))=(((first+i)%U64:Nat):Int):=z4i first i
     by_cases hq:q=(first+i)%U64
     ·have HE:=zz (HST.out.next hil (r:=(q,t)) (n:=n) (by rw [HM.out];exact hg) hq);have HM2:=zz hgl;rw [←hq]at hwr;have HRL:=zz hst0;unfold z7z zCg;clear hbl1 c1 hg hq;have q2:=q1.alloc q1.size (.cells #[.int .u64 (q:Int),.string (st t)] 131);have hs2:=q2.size;go_wp2_with fail
      refine(zGU w.heap.size (w.heap.size+1) w.heap.size _ _ _ rs (q,t) n _ _ hb1 hb2 (HRO1.out.later ((Below.refl _ _).alloc (Nat.le_refl _) _)) hs2 (Nat.le_refl _) (by omega) (by have:=HRL.out;omega) (by have:=HM2.out.2;have:=e2.out;omega)).mono ?_;rintro e w3 ⟨rfl,A3,k3,c3,hbl3,hba3,hro3,hbw3⟩;go_wp2_with fail
      go_roundw
      case rel=>exact⟨i+1,A3,k3,c3,_,_,by go_num,by omega,hbl3,hba3,hro3,HE.out,q2.trans hbw3⟩
      case measure=>simp [intOf];omega
     ·have HE:=zz (HST.out.stop hil (z5C (by rw [HM.out];exact hg) hq));have e0:(w1.alloc (.cells #[.int .u64 (q:Int),.string (st t)] 131)).cell? ⟨w.heap.size,0,none⟩=some (.slice A' k' c'):=hb1.cell 0;have e1:=hb2.cell 0;have t1:((q:Int) != (((first+i)%U64:Nat):Int))=true:=by rw [bne_iff_ne];omega
      generalize (first+i)%U64=fi at*;unfold z7z zCg;clear hbl1 c1 hg hq;go_wp2_with fail
      go_quiet (fail)
      go_wp2_with fail
      go_ret2
      rw [HE.out];exact⟨A',k',c',rfl,HRO1.out.later (below_drewN ((Below.refl _ _).alloc (Nat.le_refl _) _) _),below_drewN (q1.alloc q1.size _) _⟩
  ·obtain rfl:i=l.length:=by omega
   have HE:=zz hst.end;have c0:wr.cell? ⟨w.heap.size,0,none⟩=some (.slice A' k' c'):=hbl.cell 0;have c1:wr.cell? ⟨w.heap.size+1,0,none⟩=some (.int .i64 (a:Int)):=hba.cell 0;go_wp2_with fail
   go_quiet (fail)
   go_wp2_with fail
   go_ret2
   rw [HE.out];exact⟨A',k',c',rfl,hro,below_drewN hbw _⟩
def lgC(hg:Nat)(a:Int)(n size:Nat)(lv sv:Value)(last synced:Nat):Array Value:=
 #[.pointer (some ⟨hg,0,none⟩),.int .i64 a,.int .i64 (n:Int),.int .i64 (size:Int),lv,sv,.int .u64 (last:Int),.int .u64 (synced:Int)]
abbrev Lb(w:World)(gl:Nat)(hg:Nat)(a:Int)(n size:Nat)(lv sv:Value)(last synced:Nat):Prop:=Blk w gl 180 (lgC hg a n size lv sv last synced)
theorem i64_in{x:Int}(h0: -9223372036854775808≤x)(h1:x≤9223372036854775807):IntKind.i64.wrap x=x:=by
 simp [IntKind.wrap,IntKind.bits,IntKind.signed];omega
structure BySt(w wr:World)(f:SF)(p:Int)(size k:Nat)(v:Value)(out:List UInt8):Prop where
 hk:k≤size
 all:z1E f p size=out++z1E f (p+(k:Int)) (size-k)
 len:out.length≤512*k
 own:Ob 5 wr w.heap.size v out
 below:Below w.heap.size w wr
theorem BySt.full{w wr w2:World}{f:SF}{p:Int}{size k:Nat}{v v':Value}{out b:List UInt8}(s:BySt w wr f p size k v out)(hk:k<size)(hb:f (p+(k:Int))=some b)(hb1:¬b.length<512)(hb2:b.length≤512)(ho:Ob 5 w2 w.heap.size v' (out++b))(hq:Below w.heap.size w w2):
 BySt w w2 f p size (k+1) v' (out++b):=by
 refine⟨hk,?_,by rw [List.length_append];have:=s.len;omega,ho,hq⟩;rw [s.all,show size-k=size-(k+1)+1 by omega,z7D hb hb1,List.append_assoc]
 congr 3
 push_cast
 omega
theorem zBL(h:Zn)(D:Dsk)(gl:Nat)(a:Int)(n size i:Nat)(lv sv:Value)(last synced:Nat)(w:World)(hd:Dk w h D)(hok:D.Ok)(hl:Lb w gl h.g a n size lv sv last synced)(hs:size≤64)(hi:i≤64)(h0:0≤a)(h1:a≤65536):
 Calls Tryz.prog 137 #[.pointer (some ⟨gl,0,none⟩),.int .i64 (i:Int)] w fun e w'=>∃A k c,e= .returned (.slice A k c)∧Ob 5 w' w.heap.size (.slice A k c) (z1E D.view (a+(i:Int)*size) size)∧Below w.heap.size w w':=by
 have HD:=zz hd;have HOK:=zz hok;have HL:=zz hl;have l3:w.cell? ⟨gl,3,none⟩=some (.int .i64 (size:Int)):=hl.cell 3;clear hd hok hl;have hmul:(0:Int)≤(i:Int)*size∧(i:Int)*size≤4096:=by
  constructor
  ·exact Int.mul_nonneg (by omega) (by omega)
  ·have:i*size≤64*64:=Nat.mul_le_mul hi hs;have e:((i*size:Nat):Int)=(i:Int)*size:=by push_cast;rfl
   omega
 go_enter Tryz.func137,Tryz.ntmps137
 go_wp2_with fail
 clear l3;go_loopw [5,13] (fun ov kv wr=>∃ (k:Nat) (A:Option Addr) (m c:Nat) (out:List UInt8),ov= .slice A m c∧kv= .int .i64 (k:Int)∧Hid (BySt w wr D.view (a+(i:Int)*size) size k (.slice A m c) out)) (fun _ kv _=>size-(intOf kv).toNat)
 case atStart=>exact⟨0,none,0,0,[],rfl,rfl,⟨Nat.zero_le _,by simp,by simp,Ob.nil _ _ _,Below.refl _ _⟩⟩
 case round=>
  obtain⟨k,A,m,c,out,rfl,rfl,B⟩:=hrel;have hk:=B.out.hk;by_cases hlt:k<size
  ·have LR:=zz (HL.out.later B.out.below);have l0:wr.cell? ⟨gl,0,none⟩=some (.pointer (some ⟨h.g,0,none⟩)):=LR.out.cell 0;have l1:wr.cell? ⟨gl,1,none⟩=some (.int .i64 a):=LR.out.cell 1;have l3:wr.cell? ⟨gl,3,none⟩=some (.int .i64 (size:Int)):=LR.out.cell 3;have hw1:IntKind.i64.wrap ((i:Int)*size)=(i:Int)*size:=i64_in (by omega) (by omega);have hw2:IntKind.i64.wrap (a+(i:Int)*size)=a+(i:Int)*size:=i64_in (by omega) (by omega);have hw3:IntKind.i64.wrap (a+(i:Int)*size+k)=a+(i:Int)*size+k:=i64_in (by omega) (by omega);go_wp2_with fail
   have HDR:=zz (below_drewN (Below.refl wr.heap.size wr) 1);cases hv:D.view (a+(i:Int)*size+k)with
   |none=>
    go_region_held3 (fun w'=>w'.cell? ⟨gl,0,none⟩=some (.pointer (some ⟨h.g,0,none⟩))∧w'.cell? ⟨gl,1,none⟩=some (.int .i64 a)∧w'.cell? ⟨gl,3,none⟩=some (.int .i64 (size:Int)))
     (first
       |go_keep
       |(go_split_ands
         refine⟨?_,?_,?_⟩<;>(apply cell_later hb4;assumption)))
     ((first
       |(go_at_call 88;refine(z4w h D (a+(i:Int)*size+k) _ ((HD.out.later B.out.below).later (below_drewN (Below.refl _ _) 1)) HOK.out (by unfold InI;omega)).mono ?_;rintro e w4 ⟨hsome,hnone,hb4⟩;obtain rfl:=hnone hv)))
    have hall:=B.out.all;rw [show size-k=size-k-1+1 by omega,z3i hv,List.append_nil]at hall;have q:=(B.out.below).trans ((HDR.out.trans hb4).mono B.out.below.size);have ho:=B.out.own.later (HDR.out.trans hb4);clear hsome hnone hb4 l0 l1 l3 hw1 hw2 hw3;go_wp2_with fail
    go_ret
    exact⟨_,_,_,rfl,by rw [hall];exact ho,q⟩
   |some b=>
    go_region_held3 (fun w'=>w'.cell? ⟨gl,0,none⟩=some (.pointer (some ⟨h.g,0,none⟩))∧w'.cell? ⟨gl,1,none⟩=some (.int .i64 a)∧w'.cell? ⟨gl,3,none⟩=some (.int .i64 (size:Int)))
     (first
       |go_keep
       |(go_split_ands
         refine⟨?_,?_,?_⟩<;>(apply cell_later hb4;assumption)))
     ((first
       |(go_at_call 88;refine(z4w h D (a+(i:Int)*size+k) _ ((HD.out.later B.out.below).later (below_drewN (Below.refl _ _) 1)) HOK.out (by unfold InI;omega)).mono ?_;rintro e w4 ⟨hsome,hnone,hb4⟩;obtain⟨Ab,cb,rfl,hob⟩:=hsome _ hv)))
    have hb2:b.length≤512:=(HOK.out.view.at hv).2.2;have q:=(B.out.below).trans ((HDR.out.trans hb4).mono B.out.below.size);have ho:=zz (B.out.own.later (HDR.out.trans hb4));have hbs:=zz hob.bs;clear hsome hnone hb4 l0 l1 l3 hw1 hw2 hw3 hob;have hlen:=B.out.len;by_cases hb5:b.length<512
    ·have hall:=B.out.all;rw [show size-k=size-k-1+1 by omega,z5v hv hb5]at hall;go_wp2_with (at_builtin;(refine z04 _ rfl (.tmp 39) (.tmp 40) z10 rfl ho.out hbs.out rfl rfl (by have:=B.out.len;omega) q.size ?_);intro A5 k5 c5 w5 hown5 hg5 hat5)
     have q5:=z01 q ho.out hg5 q.size;go_ret
     exact⟨_,_,_,rfl,by rw [hall];exact hown5,q5⟩
    ·go_wp2_with (at_builtin;(refine z04 _ rfl (.tmp 39) (.tmp 40) z10 rfl ho.out hbs.out rfl rfl (by have:=B.out.len;omega) q.size ?_);intro A5 k5 c5 w5 hown5 hg5 hat5)
     have q5:=z01 q ho.out hg5 q.size;go_roundw
     case rel=>exact⟨k+1,A5,k5,c5,out++b,rfl,by go_num,B.out.full hlt hv hb5 hb2 hown5 q5⟩
     case measure=>simp [intOf];omega
  ·obtain rfl:k=size:=by omega
   have hall:=B.out.all;rw [Nat.sub_self,z1E,List.append_nil]at hall;go_wp2_with fail
   go_ret
   exact⟨_,_,_,rfl,by rw [hall];exact B.out.own,B.out.below⟩
theorem z8u{l:List UInt8}{q:Nat}{t:List UInt8}{n:Nat}(h:z0i l=some ((q,t),n)):q<U64:=by
 unfold z0i at h
 split at h
 ·cases h
 ·split at h
  ·cases h
  ·rename_i f hf;have:=(z9L f (e:=0) (by omega)).1
   split at h
   ·simp only [Option.some.injEq,Prod.mk.injEq]at h;rw [←h.1.1];exact this
   ·cases h
def fdC(x:Fd×Value):List Value:= [.int .i64 (x.1.at':Int),.int .u64 (x.1.base:Int),.int .u64 (x.1.recs.length:Int),x.2]
def fcs(l:List (Fd×Value)):List Value:=l.flatMap fdC
theorem zGq(l:List (Fd×Value))(x:Fd×Value):fcs (l++ [x])=fcs l++fdC x:=by simp [fcs]
abbrev Rr(w:World)(v:Value)(rs:List Rcd):Prop:=KSl 131 2 w v rs.length (rcs rs)
structure Fs(w:World)(B:Nat)(v:Value)(L:List (Fd×Value)):Prop where
 own:w.ownsRow B 192 4 v L.length (fcs L)
 recs:∀x∈L,Rr w x.2 x.1.recs∧x.1.recs.length≤40000
theorem z1T{e:TypeId}{size n B:Nat}{w w':World}{v:Value}{xs:List Value}(h:w.ownsRow B e size v n xs)(hb:Below w.heap.size w w'):w'.ownsRow B e size v n xs:=by
 obtain⟨h1,h2⟩:=h;refine⟨h1,?_⟩;rcases h2 with h2|⟨g,cap,cur,hv,hg,hh,r⟩
 ·exact .inl h2
 ·exact .inr ⟨g,cap,cur,hv,hg,(hb.block g (lt_of_block hh)).trans hh,r⟩
theorem Fs.later{w w':World}{B:Nat}{v:Value}{L:List (Fd×Value)}(h:Fs w B v L)(hb:Below w.heap.size w w'):Fs w' B v L:=
 ⟨z1T h.own hb,fun x hx=>⟨KSl.later (h.recs x hx).1 hb,(h.recs x hx).2⟩⟩
theorem zHv:Elem Tryz.prog 189 192 (.agg #[.int .i64 0,.int .u64 0,.int .u64 0,.slice none 0 0]) 4 48:=Elem.mk' Tryz.underlying189 (by kernel_rfl) rfl (by omega)
theorem zFK{x:Fd×Value}(h:∃A k c,x.2= .slice A k c):∀y∈fdC x,y.oneCell'=true:=by
 obtain⟨A,k,c,h⟩:=h;intro y hy;simp only [fdC,List.mem_cons,List.not_mem_nil,or_false]at hy;rcases hy with rfl|rfl|rfl|rfl
 ·rfl
 ·rfl
 ·rfl
 ·rw [h];rfl
theorem Sl.newfd(w:World)(x:Fd×Value){g:Nat}(hg:g=w.heap.size):Sl (fun _=>True) (w.alloc (.cells (fdC x).toArray 192)) 4 (.slice (some ⟨g,0,none⟩) 1 1) 1 (fdC x):=by
 have:=KSl.new w 192 4 (by omega) (fdC x).toArray 1 (by omega) (by simp [maxLen]) (by simp [fdC]) hg;rw [List.toList_toArray]at this;exact Sl.more this fun _ _=>trivial
theorem Fs.snoc{w w':World}{B:Nat}{v v':Value}{L:List (Fd×Value)}{x:Fd×Value}(h:Fs w B v L)(hown:w'.ownsRow B 192 4 v' (L.length+1) (fcs L++fdC x))(hs:SameK [some 131] w w')(hx:Rr w' x.2 x.1.recs)(hl:x.1.recs.length≤40000):Fs w' B v' (L++ [x]):=by
 refine⟨by rw [List.length_append,zGq];exact hown,fun y hy=> ?_⟩;rw [List.mem_append,List.mem_singleton]at hy;rcases hy with hy|rfl
 ·exact⟨KSl.same (h.recs y hy).1 hs (by decide),(h.recs y hy).2⟩
 ·exact⟨hx,hl⟩
theorem SameK.grown{ks:List (Option TypeId)}{w w':World}{row:Option Nat}(hg:w.grownBy w' row)(hr:∀z t,row=some z→z0H w z=some t→t∉ks):SameK ks w w':=fun b t ht hk=>
 hg.block b (z3B hk) fun e=>hr b t e.symm hk ht
theorem z3n:∀ (k:Nat) (l:List UInt8) (f:Nat),(z0b k l f).1.length≤k
 |0,l,f=>by simp [z0b]
 |k+1,l,f=>by
  cases hg:z0i l with
  |none=>rw [z66 hg];simp
  |some r=>
   obtain⟨r,n⟩:=r;by_cases hq:r.1=f%U64
   ·rw [z5w hg hq];have:=z3n k (l.drop n) (f+1);simp only [List.length_cons];omega
   ·rw [z5C hg hq];simp
theorem zCU(S:Nat→Prop)(v0:Value)(l:List UInt8)(first:Nat)(rr:List Rcd×Nat)(hrr:z0b l.length l first=rr)(w:World)(hl:l.length≤1099511627776)(hf:first<U64)(hr:Bs S w v0 l):
 Calls Tryz.prog 138 #[v0,.int .u64 first] w fun e w'=>∃A k c,e= .returned (.tuple #[.slice A k c,.int .i64 (rr.2:Int)])∧Ro w' w.heap.size (.slice A k c) rr.1∧Below w.heap.size w w':=by
 rw [←hrr];exact zFn S v0 l first w hl hf hr
structure LkSt(w wr:World)(f:SF)(a:Int)(size i:Nat)(v:Value)(L:List (Fd×Value)):Prop where
 all:L.map Prod.fst=z3G f a size i
 fs:Fs wr w.heap.size v L
 below:Below w.heap.size w wr
theorem LkSt.len{w wr:World}{f:SF}{a:Int}{size i:Nat}{v:Value}{L:List (Fd×Value)}(s:LkSt w wr f a size i v L):L.length≤i:=by
 have:=zCT f a size i;rw [←s.all,List.length_map]at this;exact this
theorem LkSt.skip{w wr w':World}{f:SF}{a:Int}{size i:Nat}{v:Value}{L:List (Fd×Value)}(s:LkSt w wr f a size i v L)(hn:z1Q f a size i=none)(hb:Below wr.heap.size wr w'):LkSt w w' f a size (i+1) v L:=
 ⟨by rw [s.all,z25,z5m hn,List.append_nil],s.fs.later hb,s.below.trans (hb.mono s.below.size)⟩
theorem LkSt.next{w wr w7 w8:World}{f:SF}{a:Int}{size i q:Nat}{A A8:Option Addr}{m c k8 c8:Nat}{rv:Value}{L:List (Fd×Value)}{rs:List Rcd}{o:Obj}{B':Nat}(s:LkSt w wr f a size i (.slice A m c) L)(hl:z1Q f a size i=some (q,rs))(h7:Below wr.heap.size wr w7)
 (hr:Ro w7 B' rv rs) (hlr:rs.length≤40000) (hown:w8.ownsRow w.heap.size 192 4 (.slice A8 k8 c8) (L.length+1) (fcs L++fdC (⟨i,q,rs⟩,rv))) (hg:(w7.alloc o).grownBy w8 (Value.slice A m c).ownBlock):
 LkSt w w8 f a size (i+1) (.slice A8 k8 c8) (L++ [(⟨i,q,rs⟩,rv)]):=by
 have qa:=(Below.refl w7.heap.size w7).alloc (Nat.le_refl _) o;have f8:=(s.fs.later h7).later qa;have hs:SameK [some 131] (w7.alloc o) w8:=SameK.grown hg fun z t hz ht=>by
  have:=z1V f8.own hz;rw [this]at ht;cases ht
  decide
 refine⟨?_,f8.snoc hown hs ?_ hlr,?_⟩
 ·rw [List.map_append,s.all,z25,z5q hl];rfl
 ·exact KSl.same (KSl.later (KSl.of_own (by omega) hr) qa) hs (by decide)
 ·exact z01 ((s.below.trans (h7.mono s.below.size)).alloc (s.below.trans (h7.mono s.below.size)).size o) f8.own hg (Nat.le_trans (s.below.trans (h7.mono s.below.size)).size qa.size)
theorem zGk{f:SF}{a:Int}{size i:Nat}{b:List UInt8}(hb:z1E f (a+(i:Int)*size) size=b):z1Q f a size i=z4G b:=by unfold z1Q;rw [hb]
theorem zDa(h:Zn)(D:Dsk)(gl:Nat)(a:Int)(n size:Nat)(lv sv:Value)(last synced:Nat)(w:World)(hd:Dk w h D)(hok:D.Ok)(hl:Lb w gl h.g a n size lv sv last synced)(hn:n≤64)(hs:size≤64)(h0:0≤a)(h1:a≤65536):
 Calls Tryz.prog 103 #[.pointer (some ⟨gl,0,none⟩)] w fun e w'=>∃v L,e= .returned v∧LkSt w w' D.view a size n v L:=by
 have HD:=zz hd;have HOK:=zz hok;have HL:=zz hl;have l2:w.cell? ⟨gl,2,none⟩=some (.int .i64 (n:Int)):=hl.cell 2;have htit:Hid (st titleB=⟨#[115,101,103,109,101,110,116]⟩):=rfl;clear hd hok hl;go_enter Tryz.func103,Tryz.ntmps103
 go_wp2_with fail
 clear l2;go_loopw [3,15] (fun ov kv wr=>∃ (i:Nat) (A:Option Addr) (m c:Nat) (L:List (Fd×Value)),ov= .slice A m c∧kv= .int .i64 (i:Int)∧i≤n∧Hid (LkSt w wr D.view a size i (.slice A m c) L)) (fun _ kv _=>n-(intOf kv).toNat)
 case atStart=>exact⟨0,none,0,0,[],rfl,rfl,Nat.zero_le _,⟨rfl,⟨World.ownsRow_nil _ _ _ _,fun x hx=>by cases hx⟩,Below.refl _ _⟩⟩
 case round=>
  obtain⟨i,A,m,c,L,rfl,rfl,hi,B⟩:=hrel;by_cases hlt:i<n
  ·go_wp2_with fail
   refine(zBL h D gl a n size i lv sv last synced wr (HD.out.later B.out.below) HOK.out (HL.out.later B.out.below) hs (by omega) h0 h1).mono ?_;rintro e w4 ⟨Ab,kb,cb,rfl,hob,hb4⟩;obtain rfl:=hob.len;have hbl:=z5b HOK.out size (a+(i:Int)*size);have HLK:=zz (zGk (f:=D.view) (a:=a) (size:=size) (i:=i) rfl);generalize z1E D.view (a+(i:Int)*size) size=bs at*;go_wp2_with fail
   refine(z4y _ _ bs w4 (by omega) hob.bs).mono ?_;rintro e w5 ⟨rfl,hb5⟩;have q5:=zz (hb4.trans (hb5.mono hb4.size));have HOB:=zz (hob.later hb5);clear hb4 hb5 hob;unfold z4G at HLK;cases hg:z0i bs with
   |none=>
    rw [hg]at HLK;have B5:=zz (B.out.skip HLK.out (q5.out.trans (((Below.refl w5.heap.size w5).alloc (Nat.le_refl _) (.cells #[.int .u64 0,.string (st [])] 131)).mono q5.out.size)));have hV:z7z none= .tuple #[.agg #[.int .u64 0,.string (st [])],.int .i64 0,.bool false]:=rfl;rw [hV];clear hg hV;go_wp2_with fail
    go_roundw
    case rel=>exact⟨i+1,A,m,c,L,rfl,by go_num,by omega,B5⟩
    case measure=>simp [intOf];omega
   |some r=>
    obtain⟨⟨q,t⟩,m2⟩:=r;have HQ:=zz (z8u hg);have hlen:=z5a hg;rw [hg]at HLK;have hV:z7z (some ((q,t),m2))= .tuple #[.agg #[.int .u64 (q:Int),.string (st t)],.int .i64 (m2:Int),.bool true]:=rfl;rw [hV];clear hg hV;have qa:=(Below.refl w5.heap.size w5).alloc (Nat.le_refl _) (.cells #[.int .u64 (q:Int),.string (st t)] 131);have BR:=zz (Blk.new w5 131 #[.int .u64 (q:Int),.string (st t)]);have Q6:=zz (q5.out.trans (qa.mono q5.out.size));have HB6:=zz (HOB.out.later qa);clear qa q5 HOB;by_cases ht:t=titleB
    ·subst ht;have hll:z1Q D.view a size i=some (q,(z0b (bs.drop m2).length (bs.drop m2) q).1):=by have:=HLK.out;simpa using this
     have HDL:Hid ((bs.drop m2).length≤1099511627776):=by rw [Hid,List.length_drop];omega
     obtain⟨rr,hrr⟩:∃rr,z0b (bs.drop m2).length (bs.drop m2) q=rr:=⟨_,rfl⟩;rw [hrr]at hll;have HRR:=zz hrr;have HLL:=zz hll;obtain⟨Ab',cb',hAb,hcb,hcm,-,hAA⟩:=HB6.out.bs.at;injection hAb with e1 e2 e3
     subst e1 e3;obtain⟨bb,oo,rfl,-,-⟩:=hAA (by omega);clear hAA hll hrr;have HCC:Hid ((cb=m2→Hid (Bs (fun b=>wr.heap.size≤b∧b<(w5.alloc (.cells #[.int .u64 (q:Int),.string (st titleB)] 131)).heap.size) (w5.alloc (.cells #[.int .u64 (q:Int),.string (st titleB)] 131)) (.slice (some ⟨bb,oo,none⟩) 0 0) (bs.drop m2)))∧(¬cb=m2→Hid (Bs (fun b=>wr.heap.size≤b∧b<(w5.alloc (.cells #[.int .u64 (q:Int),.string (st titleB)] 131)).heap.size) (w5.alloc (.cells #[.int .u64 (q:Int),.string (st titleB)] 131)) (.slice (some ⟨bb,oo+m2,none⟩) (bs.length-m2) (cb-m2)) (bs.drop m2)))):=by
      have:=HB6.out.bs.cut (k:=m2) hlen.2;exact⟨fun h=>by rw [if_pos h,h,Nat.sub_self,show bs.length-m2=0 by omega]at this;exact this,fun h=>by rw [if_neg h]at this;exact this⟩
     have r1:(w5.alloc (.cells #[.int .u64 (q:Int),.string (st titleB)] 131)).cell? ⟨w5.heap.size,1,none⟩=some (.string (st titleB)):=BR.out.cell 1;have r0:(w5.alloc (.cells #[.int .u64 (q:Int),.string (st titleB)] 131)).cell? ⟨w5.heap.size,0,none⟩=some (.int .u64 (q:Int)):=BR.out.cell 0;have hbt:(titleB== [115,101,103,109,101,110,116])=true:=rfl;have b1:(0:Int)≤(m2:Int):=by omega
     have b2:(m2:Int)≤(bs.length:Int):=by omega
     go_wp2_with fail
     generalize w5.alloc _=w6 at*;generalize w5.heap.size=gr at*;clear hbt r1;by_cases hcn:cb=m2
     ·have HCUT:=HCC.out.1 hcn;have hcn:=hcn.symm;subst hcn;have r0:w6.cell? ⟨gr,0,none⟩=some (.int .u64 (q:Int)):=BR.out.cell 0;go_region_held3 (fun w'=>w'.cell? ⟨gr,0,none⟩=some (.int .u64 (q:Int)))
       (first
         |(with_reducible assumption)
         |(simp only [World.cell?_drew];with_reducible assumption)
         |(apply cell_later hb7;assumption))
       ((first
         |(go_at_call 138;refine(zCU _ _ (bs.drop m2) q rr HRR.out _ HDL.out HQ.out (Bs.later HCUT.out (below_drewN (Below.refl _ _) 1))).mono ?_;rintro e w7 ⟨Ar,kr,cr,rfl,hro,hb7⟩)))
      have HRO:=zz hro;obtain rfl:=hro.len;have Q7:=zz (Q6.out.trans (((below_drewN (Below.refl w6.heap.size w6) 1).trans hb7).mono Q6.out.size));have BR7:=zz (BR.out.later ((below_drewN (Below.refl w6.heap.size w6) 1).trans hb7));clear hro hb7 r0;have hrl:rr.1.length≤40000:=by
       have h1:=z3n (bs.drop m2).length (bs.drop m2) q;rw [HRR.out,List.length_drop]at h1;omega
      have HRL:=zz hrl;have hwl:=z1e (n:=((rr.1.length:Nat):Int)) (by omega) (by unfold U64;omega);have r0:w7.cell? ⟨gr,0,none⟩=some (.int .u64 (q:Int)):=BR7.out.cell 0;have HOWN:=zz (z1T B.out.fs.own Q7.out);have hll:=B.out.len;have hz7:=Nat.le_trans B.out.below.size Q7.out.size;have hM1:Hid (L.length+1≤maxLen):=by simp only [Hid,maxLen];omega
      have hM2:Hid ((L.length+1)*48≤140737488355328):=by rw [Hid];omega
      have hM3:Hid (∀o:Obj,w.heap.size≤(w7.alloc o).heap.size):=fun o=>by simp;omega
      have hM4:=zz (zFK (x:=(⟨i,q,rr.1⟩,.slice Ar rr.1.length cr)) ⟨_,_,_,rfl⟩);go_wp2_with (at_builtin;refine z02 _ rfl (.tmp 43) (.tmp 53) zHv rfl (World.ownsRow.alloc HOWN.out _) (Sl.newfd w7 (⟨i,q,rr.1⟩,.slice Ar rr.1.length cr) rfl) rfl rfl hM4.out hM1.out hM2.out (hM3.out _) ?_;intro A8 k8 c8 w8 hown8 hg8 hat8)
      have BN:=zz (B.out.next HLL.out Q7.out HRO.out HRL.out hown8 hg8);go_roundw
      case rel=>exact⟨i+1,A8,k8,c8,_,rfl,by go_num,by omega,BN⟩
      case measure=>simp [intOf];omega
     ·have HCUT:=HCC.out.2 hcn;have r0:w6.cell? ⟨gr,0,none⟩=some (.int .u64 (q:Int)):=BR.out.cell 0;go_region_held3 (fun w'=>w'.cell? ⟨gr,0,none⟩=some (.int .u64 (q:Int)))
       (first
         |(with_reducible assumption)
         |(simp only [World.cell?_drew];with_reducible assumption)
         |(apply cell_later hb7;assumption))
       ((first
         |(go_at_call 138;refine(zCU _ _ (bs.drop m2) q rr HRR.out _ HDL.out HQ.out (Bs.later HCUT.out (below_drewN (Below.refl _ _) 1))).mono ?_;rintro e w7 ⟨Ar,kr,cr,rfl,hro,hb7⟩)))
      have HRO:=zz hro;obtain rfl:=hro.len;have Q7:=zz (Q6.out.trans (((below_drewN (Below.refl w6.heap.size w6) 1).trans hb7).mono Q6.out.size));have BR7:=zz (BR.out.later ((below_drewN (Below.refl w6.heap.size w6) 1).trans hb7));clear hro hb7 r0;have hrl:rr.1.length≤40000:=by
       have h1:=z3n (bs.drop m2).length (bs.drop m2) q;rw [HRR.out,List.length_drop]at h1;omega
      have HRL:=zz hrl;have hwl:=z1e (n:=((rr.1.length:Nat):Int)) (by omega) (by unfold U64;omega);have r0:w7.cell? ⟨gr,0,none⟩=some (.int .u64 (q:Int)):=BR7.out.cell 0;have HOWN:=zz (z1T B.out.fs.own Q7.out);have hll:=B.out.len;have hz7:=Nat.le_trans B.out.below.size Q7.out.size;have hM1:Hid (L.length+1≤maxLen):=by simp only [Hid,maxLen];omega
      have hM2:Hid ((L.length+1)*48≤140737488355328):=by rw [Hid];omega
      have hM3:Hid (∀o:Obj,w.heap.size≤(w7.alloc o).heap.size):=fun o=>by simp;omega
      have hM4:=zz (zFK (x:=(⟨i,q,rr.1⟩,.slice Ar rr.1.length cr)) ⟨_,_,_,rfl⟩);go_wp2_with (at_builtin;refine z02 _ rfl (.tmp 43) (.tmp 53) zHv rfl (World.ownsRow.alloc HOWN.out _) (Sl.newfd w7 (⟨i,q,rr.1⟩,.slice Ar rr.1.length cr) rfl) rfl rfl hM4.out hM1.out hM2.out (hM3.out _) ?_;intro A8 k8 c8 w8 hown8 hg8 hat8)
      have BN:=zz (B.out.next HLL.out Q7.out HRO.out HRL.out hown8 hg8);go_roundw
      case rel=>exact⟨i+1,A8,k8,c8,_,rfl,by go_num,by omega,BN⟩
      case measure=>simp [intOf];omega
    ·have hno:z1Q D.view a size i=none:=by have:=HLK.out;simpa [ht]using this
     have B6:=zz (B.out.skip hno Q6.out);have hbt:(t== [115,101,103,109,101,110,116])=false:=by
      rw [beq_eq_false_iff_ne];exact ht
     clear hno;go_wp2_with fail
     go_roundw
     case rel=>exact⟨i+1,A,m,c,L,rfl,by go_num,by omega,B6⟩
     case measure=>simp [intOf];omega
  ·obtain rfl:i=n:=by omega
   go_wp2_with fail
   go_ret
   exact⟨_,L,rfl,B.out⟩
def sgC(s:Sg):List Value:= [.int .i64 (s.at':Int),.int .u64 (s.base:Int),.int .u64 (s.count:Int)]
def z3z(l:List Sg):List Value:=l.flatMap sgC
abbrev Rg3(w:World)(v:Value)(l:List Sg):Prop:=KSl 184 3 w v l.length (z3z l)
theorem zCV:∀ (l:List Sg) (j:Nat) (hj:j<l.length),(z3z l)[j*3]? =some (.int .i64 (l[j].at':Int))∧(z3z l)[j*3+1]? =some (.int .u64 (l[j].base:Int))∧(z3z l)[j*3+2]? =some (.int .u64 (l[j].count:Int))
 |x::xs,0,_=>⟨rfl,rfl,rfl⟩
 |x::xs,j+1,hj=>by
  have h:=zCV xs j (by simpa using hj);have e:z3z (x::xs)=sgC x++z3z xs:=rfl;have g:∀k,(z3z (x::xs))[(j+1)*3+k]? =(z3z xs)[j*3+k]? :=fun k=>by
   rw [e,List.getElem?_append_right (by simp [sgC];omega)]
   congr 1
   simp [sgC];omega
  refine⟨?_,?_,?_⟩
  ·rw [show(j+1)*3=(j+1)*3+0 by omega,g];exact h.1
  ·rw [g];exact h.2.1
  ·rw [g];exact h.2.2
theorem Rg3.at{w:World}{v:Value}{l:List Sg}(h:Rg3 w v l):∃A c,v= .slice A l.length c∧l.length≤c∧c≤maxLen∧
 (0<l.length→∃b o,A=some ⟨b,o,none⟩∧b<w.heap.size∧∀j (hj:j<l.length),w.cell? ⟨b,o+j*3,none⟩=some (.int .i64 (l[j].at':Int))∧w.cell? ⟨b,o+j*3+1,none⟩=some (.int .u64 (l[j].base:Int))∧w.cell? ⟨b,o+j*3+2,none⟩=some (.int .u64 (l[j].count:Int))):=by
 obtain⟨_,A,c,h2,h3,h4,h5,h6⟩:=KSl.lt h;refine⟨A,c,h2,h3,h4,fun hn=> ?_⟩;obtain⟨b,o,ha,hs,hc⟩:=h6 hn;refine⟨b,o,ha,hs,fun j hj=> ?_⟩;have hg:=zCV l j hj;refine⟨hc _ _ hg.1,?_,?_⟩
 ·rw [Nat.add_assoc];exact hc _ _ hg.2.1
 ·rw [Nat.add_assoc];exact hc _ _ hg.2.2
theorem zED(x:Sg)(i gb:Nat)(w:World)(hb:Blk w gb 3 #[.int .i64 (i:Int)]):
 Calls Tryz.prog 134 #[.agg #[.int .i64 (x.at':Int),.int .u64 (x.base:Int),.int .u64 (x.count:Int)],.pointer (some ⟨gb,0,none⟩)] w fun e w'=>e= .returned (.bool (x.at'==i))∧Below w.heap.size w w':=by
 have q:=(Below.refl w.heap.size w).alloc (Nat.le_refl _) (.cells #[.int .i64 (x.at':Int),.int .u64 (x.base:Int),.int .u64 (x.count:Int)] 184);have c0:(w.alloc (.cells #[.int .i64 (x.at':Int),.int .u64 (x.base:Int),.int .u64 (x.count:Int)] 184)).cell? ⟨gb,0,none⟩=some (.int .i64 (i:Int)):=(hb.later q).cell 0;have hlt:=hb.lt;clear hb;by_cases hx:x.at'=i
 ·subst hx;have hx2:(x.at'==x.at')=true:=by simp
  rw [hx2];clear hx2;go_enter Tryz.func134,Tryz.ntmps134
  go_wp2_with fail
  go_ret
  exact⟨by simp,q⟩
 ·have hx2:(x.at'==i)=false:=by simpa using hx
  have hx4:=zz hx;clear hx;have hx3:¬ ((x.at':Int)=(i:Int)):=by have:=hx4.out;omega
  rw [hx2];clear hx2;go_enter Tryz.func134,Tryz.ntmps134
  go_wp2_with fail
  go_ret
  exact⟨by simp [hx3],q⟩
theorem zBA(lv:Value)(live:List Sg)(i gb:Nat)(w:World)(hb:Blk w gb 3 #[.int .i64 (i:Int)])(hl:Rg3 w lv live):
 Calls Tryz.prog 145 #[lv,.func (Fn.func 134) #[] #[.pointer (some ⟨gb,0,none⟩)]] w fun e w'=>∃r:Int,e= .returned (.int .i64 r)∧(0≤r↔z0v live i=true)∧Below w.heap.size w w':=by
 obtain⟨A,c,rfl,hlc,hcm,hA⟩:=hl.at;have HA:=zz hA;have HB:=zz hb;have hm:live.length≤9223372036854775807:=by unfold maxLen at hcm;omega
 clear hl hb hA;go_enter Tryz.func145,Tryz.ntmps145
 go_wp2_with fail
 go_loopw [8] (fun kv wr=>∃k:Nat,kv= .int .i64 (k:Int)∧k≤live.length∧Hid (z0v (live.take k) i=false)∧Hid (Below w.heap.size w wr)) (fun kv _=>live.length-(intOf kv).toNat)
 case atStart=>exact⟨0,rfl,Nat.zero_le _,rfl,Below.refl _ _⟩
 case round=>
  obtain⟨k,rfl,hk,HU,B⟩:=hrel;by_cases hlt:k<live.length
  ·obtain⟨b,o,rfl,hbl,hcell⟩:=HA.out (by omega);obtain⟨k0,k1,k2⟩:=hcell k hlt;have x0:=(B.out.cell (p:=⟨b,o+k*3,none⟩) hbl).trans k0;have x1:=(B.out.cell (p:=⟨b,o+k*3+1,none⟩) hbl).trans k1;have x2:=(B.out.cell (p:=⟨b,o+k*3+2,none⟩) hbl).trans k2;have HBR:=zz (HB.out.later B.out);have HT:Hid (live.take (k+1)=live.take k++ [live[k]]):=by rw [Hid,List.take_add_one,List.getElem?_eq_getElem hlt];rfl
   have HM:=zz (List.getElem_mem hlt);clear hcell k0 k1 k2;generalize live[k]=x at*;go_wp2_with fail
   refine(zED x i gb wr HBR.out).mono ?_;rintro e w4 ⟨rfl,hb4⟩;have B4:=zz (B.out.trans (hb4.mono B.out.size));by_cases hx:x.at'=i
   ·have hx2:(x.at'==i)=true:=by simpa using hx
    rw [hx2];go_wp2_with fail
    go_ret
    exact⟨_,rfl,⟨fun _=>z1c.2 ⟨x,HM.out,hx⟩,fun _=>by omega⟩,B4.out⟩
   ·have hx2:(x.at'==i)=false:=by simpa using hx
    have HU2:Hid (z0v (live.take (k+1)) i=false):=by rw [Hid,HT.out,z3H,HU.out,hx2];rfl
    rw [hx2];go_wp2_with fail
    go_roundw
    case rel=>exact⟨k+1,by go_num,by omega,HU2,B4⟩
    case measure=>simp [intOf];omega
  ·obtain rfl:k=live.length:=by omega
   have hu:=HU.out;rw [List.take_length]at hu;go_wp2_with fail
   go_ret
   exact⟨_,rfl,⟨fun h=>by simp at h,fun h=>by rw [hu]at h;cases h⟩,B.out⟩
theorem z86(lv:Value)(live:List Sg)(i gb:Nat)(w:World)(hb:Blk w gb 3 #[.int .i64 (i:Int)])(hl:Rg3 w lv live):
 Calls Tryz.prog 133 #[lv,.func (Fn.func 134) #[] #[.pointer (some ⟨gb,0,none⟩)]] w fun e w'=>e= .returned (.bool (z0v live i))∧Below w.heap.size w w':=by
 go_enter Tryz.func133,Tryz.ntmps133
 go_wp2_with fail
 refine(zBA lv live i gb w hb hl).mono ?_;rintro e w4 ⟨r,rfl,hr,hb4⟩;have HR:=zz hr;clear hr;go_wp2_with fail
 go_ret
 refine⟨?_,hb4⟩;have:=HR.out;cases hu:z0v live i
 ·rw [hu]at this;simp at this;simp;omega
 ·rw [hu]at this;simp at this;simp [this]
theorem z1z(gl hg:Nat)(a:Int)(n size i:Nat)(lv sv:Value)(last synced:Nat)(live:List Sg)(w:World)(hl:Lb w gl hg a n size lv sv last synced)(hs:Rg3 w lv live):
 Calls Tryz.prog 96 #[.pointer (some ⟨gl,0,none⟩),.int .i64 (i:Int)] w fun e w'=>e= .returned (.bool (z0v live i))∧Below w.heap.size w w':=by
 have qa:=(Below.refl w.heap.size w).alloc (Nat.le_refl _) (.cells #[.int .i64 (i:Int)] 3);have l4:(w.alloc (.cells #[.int .i64 (i:Int)] 3)).cell? ⟨gl,4,none⟩=some lv:=(hl.later qa).cell 4;have HS:=zz (KSl.later hs qa);have HB:=zz (Blk.new w 3 #[.int .i64 (i:Int)]);have HQ:=zz qa;have hmf:=z0R Tryz.prog;obtain⟨A,c,rfl,-⟩:=hs.at;clear hl hs qa;go_enter Tryz.func96,Tryz.ntmps96
 go_wp2_with fail
 refine(z86 _ live i _ _ HB.out HS.out).mono ?_;rintro e w4 ⟨rfl,hb4⟩;have q:=HQ.out.trans (hb4.mono HQ.out.size);go_wp2_with fail
 go_ret
 exact⟨rfl,q⟩
abbrev Sec:=Int×List UInt8
def scs(l:List Sec):List Value:=l.flatMap fun x=> [.int .i64 x.1,.string (st x.2)]
section
variable {w wr w':World} {D pc Z:Array Value}
end
def dkKs:List (Option TypeId):= [some 76,none,some 124,some 3,some 31,some 5]
theorem Ub.same{ks:List (Option TypeId)}{w w':World}{B:Nat}{v:Value}{l:List UInt8}(h:Ub w B v l)(hs:SameK ks w w')(hk:some 5∈ks):Ub w' B v l:=h.keep fun b hb=>hs b _ hk (zBB hb)
theorem Secs.same{ks:List (Option TypeId)}{w w':World}{b n:Nat}{f:SF}(h:Secs w b f n)(hs:SameK ks w w')(h1:none∈ks)(h2:some 5∈ks):Secs w' b f n:=by
 have hk:=h.kind;obtain⟨m,hm,hr⟩:=h;exact⟨m,hm.sameK hk hs h1,fun a ha=>(hr a ha).keep fun _ _ h=>h.same hs h2⟩
theorem PnIs.same{w w':World}{v:Value}{p:Pnd}(h:PnIs w v p)(hs:SameK dkKs w w'):PnIs w' v p:=by
 cases p with
 |wr a b=>
  obtain⟨ga,A,c,h1,h2,h3,h4⟩:=h;exact⟨ga,A,c,h1,h2.sameK hs (by decide),h3.sameK hs (by decide),h4.same hs (by decide)⟩
 |fr a=>
  obtain⟨ga,h1,h2⟩:=h;exact⟨ga,h1,h2.sameK hs (by decide)⟩
theorem Dk.same{w w':World}{h:Zn}{D:Dsk}(d:Dk w h D)(hs:SameK dkKs w w'):Dk w' h D:=by
 obtain⟨vs,h1,h2⟩:=d.pend;exact⟨d.blk.sameK hs (by decide),d.view.same hs (by decide) (by decide),d.ground.same hs (by decide) (by decide),d.ne,vs,h1.same hs (by decide),h2.keep fun _ _ h=>h.same hs⟩
theorem Stp.same{ks:List (Option TypeId)}{h h':Zn}{w w':World}{D:Dsk}(s:Stp h w h' w')(d:Dk w h D)(hk:some 76∉ks)(h0:none∉ks)(hp:some 124∉ks):SameK ks w w':=fun b t ht hb=>
 s.turn.block b (z3B hb) fun e=>by
  rcases d.kinds e with h3|h3|h3
  ·exact SameK.not h3 hk hb ht
  ·exact SameK.not h3 h0 hb ht
  ·exact SameK.not h3 hp hb ht
structure Dp(w W:World)(h:Zn)(D:Dsk):Prop where
 dk:Dk W h D
 new:∀b,h.has b→w.heap.size≤b
 below:Below w.heap.size w W
section
variable {w W W':World} {h h':Zn} {D D':Dsk}
end
section
variable {w W W':World} {h h':Zn} {D D':Dsk} {g:Nat} {a:Int} {num:Nat} {last:Int} {body t:List UInt8}
end
theorem Stp.lb{h h':Zn}{w w':World}{D:Dsk}(s:Stp h w h' w')(d:Dk w h D){gl hg:Nat}{a:Int}{n size:Nat}{lv sv:Value}{last synced:Nat}(hl:Lb w gl hg a n size lv sv last synced):Lb w' gl hg a n size lv sv last synced:=s.blk d hl (by decide) (by decide)
theorem Mtp.sameL{ks:List (Option TypeId)}{h h':Zn}{w w':World}{D:Dsk}{g:Nat}{t:TypeId}{cs:Array Value}(s:Mtp h g w h' w')(d:Dk w h D)(m:Blk w g t cs)(hk:some 76∉ks)(h0:none∉ks)(hp:some 124∉ks)(hm:some t∉ks):SameK ks w w':=fun b t' ht hb=>
 s.turn.block b (z3B hb) fun e=>by
  rcases e with e|rfl
  ·rcases d.kinds e with h3|h3|h3
   ·exact SameK.not h3 hk hb ht
   ·exact SameK.not h3 h0 hb ht
   ·exact SameK.not h3 hp hb ht
  ·exact SameK.not (z0K m) hm hb ht
theorem zC3{i size:Nat}(hi:i≤64)(hs:size≤64):(0:Int)≤(i:Int)*size∧(i:Int)*size≤4096:=by
 constructor
 ·exact Int.mul_nonneg (by omega) (by omega)
 ·have:i*size≤64*64:=Nat.mul_le_mul hi hs;have e:((i*size:Nat):Int)=(i:Int)*size:=by push_cast;rfl
  omega
theorem z8g(h:Zn)(D:Dsk)(gl:Nat)(a:Int)(n size i:Nat)(lv sv:Value)(last synced:Nat)(w:World)(hd:Dk w h D)(hok:D.Ok)(hl:Lb w gl h.g a n size lv sv last synced)(hs:size≤64)(hi:i≤64)(h0:0≤a)(h1:a≤65536)(hp:D.pend.length≤900000):
 Calls Tryz.prog 100 #[.pointer (some ⟨gl,0,none⟩),.int .i64 (i:Int)] w fun e w'=>e= .returned (.tuple #[])∧∃h',Dk w' h' (z2f D (a+(i:Int)*size) size)∧Stp h w h' w':=by
 have HD:=zz hd;have HOK:=zz hok;have HL:=zz hl;have l3:w.cell? ⟨gl,3,none⟩=some (.int .i64 (size:Int)):=hl.cell 3;have hmul:=zC3 hi hs;clear hd hok hl;go_enter Tryz.func100,Tryz.ntmps100
 go_wp2_with fail
 clear l3;go_loopw [9] (fun kv wr=>∃ (k:Nat) (h':Zn),kv= .int .i64 (k:Int)∧k≤size∧Hid (Dk wr h' (z2f D (a+(i:Int)*size) k))∧Hid (Stp h w h' wr)) (fun kv _=>size-(intOf kv).toNat)
 case atStart=>exact⟨0,h,rfl,Nat.zero_le _,HD,Stp.refl _ _⟩
 case round=>
  obtain⟨k,h',rfl,hk,DK,ST⟩:=hrel;by_cases hlt:k<size
  ·have LR:=zz (ST.out.lb HD.out HL.out);have l0:wr.cell? ⟨gl,0,none⟩=some (.pointer (some ⟨h.g,0,none⟩)):=LR.out.cell 0;have l1:wr.cell? ⟨gl,1,none⟩=some (.int .i64 a):=LR.out.cell 1;have l3:wr.cell? ⟨gl,3,none⟩=some (.int .i64 (size:Int)):=LR.out.cell 3;have hw1:IntKind.i64.wrap ((i:Int)*size)=(i:Int)*size:=i64_in (by omega) (by omega);have hw2:IntKind.i64.wrap (a+(i:Int)*size)=a+(i:Int)*size:=i64_in (by omega) (by omega);have hw3:IntKind.i64.wrap (a+(i:Int)*size+k)=a+(i:Int)*size+k:=i64_in (by omega) (by omega);have hin:Hid (InI (a+(i:Int)*size+k)):=by rw [Hid];unfold InI;omega
   have hpe:=z5j D (a+(i:Int)*size) k;have HPE:Hid ((z2f D (a+(i:Int)*size) k).pend.length≤1000000000):=by rw [Hid];omega
   have HOKR:=zz (z53 HOK.out (a+(i:Int)*size) k);have HG:=zz ST.out.g;clear hpe;go_wp2_with fail
   go_region_held3 (fun w'=>w'.cell? ⟨gl,0,none⟩=some (.pointer (some ⟨h.g,0,none⟩))∧w'.cell? ⟨gl,1,none⟩=some (.int .i64 a)∧w'.cell? ⟨gl,3,none⟩=some (.int .i64 (size:Int)))
    (first
      |go_keep
      |exact⟨LX.cell 0,LX.cell 1,LX.cell 3⟩
      |fail)
    ((first
      |(go_at_call 136;rw [←HG.out];refine(zF4 h' _ (a+(i:Int)*size+k) _ (DK.out.later (below_drewN (Below.refl _ _) 1)) HOKR.out hin.out HPE.out).mono ?_;rintro e w4 ⟨rfl,h4,hd4,hs4⟩;rw [HG.out];have LX:=hs4.blk (DK.out.later (below_drewN (Below.refl _ _) 1)) (LR.out.later (below_drewN (Below.refl _ _) 1)) (by decide) (by decide))))
   have D4:=zz hd4;have S4:=zz (ST.out.trans ((Stp.below (below_drewN (Below.refl _ _) 1)).trans hs4));clear hd4 hs4 LX l0 l1 l3;go_wp2_with fail
   go_roundw
   case rel=>exact⟨k+1,h4,by go_num,by omega,D4,S4⟩
   case measure=>simp [intOf];omega
  ·obtain rfl:k=size:=by omega
   go_wp2_with fail
   go_end0
   exact⟨rfl,h',DK.out,ST.out⟩
theorem lg_put{w W:World}{h h':Zn}{D D':Dsk}{gl:Nat}{cs:Array Value}(hd:Dk W h' D')(hl:Blk W gl 180 cs)(m:Mtp h gl w h' W)(k:Nat)(u:Value):
 Dk (W.setCell ⟨gl,k,none⟩ u) h' D'∧Blk (W.setCell ⟨gl,k,none⟩ u) gl 180 (cs.setIfInBounds k u)∧Mtp h gl w h' (W.setCell ⟨gl,k,none⟩ u):=
 ⟨hd.same (SameK.setCell (p:=⟨gl,k,none⟩) hl (by decide) u),hl.put k u,m.g,m.turn.setCell (p:=⟨gl,k,none⟩) (.inl (.inr rfl)) u,m.has⟩
theorem z4V(h:Zn)(D:Dsk)(gl:Nat)(a:Int)(n size:Nat)(lv sv:Value)(last synced:Nat)(w:World)(hd:Dk w h D)(hok:D.Ok)(hl:Lb w gl h.g a n size lv sv last synced):
 Calls Tryz.prog 59 #[.pointer (some ⟨gl,0,none⟩)] w fun e w'=>e= .returned (.tuple #[])∧∃h',Dk w' h' D.sync∧Lb w' gl h.g a n size lv sv last last∧Mtp h gl w h' w':=by
 have HD:=zz hd;have HL:=zz hl;have l0:w.cell? ⟨gl,0,none⟩=some (.pointer (some ⟨h.g,0,none⟩)):=hl.cell 0;clear hd hl;go_enter Tryz.func59,Tryz.ntmps59
 go_wp2_with fail
 refine(zGI h D w HD.out hok).mono ?_;rintro e w4 ⟨rfl,h4,hd4,hs4⟩;have D4:=zz hd4;have S4:=zz hs4;have L4:=zz (hs4.lb HD.out HL.out);have l6:w4.cell? ⟨gl,6,none⟩=some (.int .u64 (last:Int)):=L4.out.cell 6;have l7:w4.cell? ⟨gl,7,none⟩=some (.int .u64 (synced:Int)):=L4.out.cell 7;have f7:=L4.out.free 7;clear hd4 hs4 l0;go_wp2_with fail
 go_end0
 have:=lg_put (D:=D) D4.out L4.out (Mtp.of_stp S4.out) 7 (.int .u64 (last:Int));exact⟨rfl,h4,this.1,this.2.1,this.2.2⟩
theorem z4Q(gl hg:Nat)(a:Int)(n size:Nat)(lv sv:Value)(last synced:Nat)(w:World)(hl:Lb w gl hg a n size lv sv last synced)(hs:size≤64):
 Calls Tryz.prog 95 #[.pointer (some ⟨gl,0,none⟩)] w fun e w'=>e= .returned (.int .i64 ((512*size:Nat):Int))∧w=w':=by
 have l3:w.cell? ⟨gl,3,none⟩=some (.int .i64 (size:Int)):=hl.cell 3;have hw:IntKind.i64.wrap ((size:Int)*512)=((512*size:Nat):Int):=by rw [i64_in (by omega) (by omega)];omega
 clear hl;go_enter Tryz.func95,Tryz.ntmps95
 go_wp2_with fail
 go_ret
 exact⟨rfl,rfl⟩
theorem zDz(gl hg:Nat)(a:Int)(n size:Nat)(lv sv:Value)(last synced:Nat)(w:World)(hl:Lb w gl hg a n size lv sv last synced):
 Calls Tryz.prog 58 #[.pointer (some ⟨gl,0,none⟩)] w fun e w'=>e= .returned (.int .u64 (last:Int))∧w=w':=by
 have l6:w.cell? ⟨gl,6,none⟩=some (.int .u64 (last:Int)):=hl.cell 6;clear hl;go_enter Tryz.func58,Tryz.ntmps58
 go_wp2_with fail
 go_ret
 exact⟨rfl,rfl⟩
theorem zAY(gl hg:Nat)(a:Int)(n size:Nat)(lv sv:Value)(last synced:Nat)(w:World)(hl:Lb w gl hg a n size lv sv last synced):
 Calls Tryz.prog 93 #[.pointer (some ⟨gl,0,none⟩)] w fun e w'=>e= .returned (.int .u64 (synced:Int))∧w=w':=by
 have l7:w.cell? ⟨gl,7,none⟩=some (.int .u64 (synced:Int)):=hl.cell 7;clear hl;go_enter Tryz.func93,Tryz.ntmps93
 go_wp2_with fail
 go_ret
 exact⟨rfl,rfl⟩
theorem zFk:Elem Tryz.prog 178 184 (.agg #[.int .i64 0,.int .u64 0,.int .u64 0]) 3 24:=Elem.mk' Tryz.underlying178 (by kernel_rfl) rfl (by omega)
theorem zC9(s:Sg):∀y∈sgC s,y.oneCell'=true:=by
 intro y hy;simp only [sgC,List.mem_cons,List.not_mem_nil,or_false]at hy;rcases hy with rfl|rfl|rfl<;>rfl
theorem zB0(l:List Sg)(x:Sg):z3z (l++ [x])=z3z l++sgC x:=by simp [z3z]
theorem Sl.newsg(w:World)(x:Sg){g:Nat}(hg:g=w.heap.size):Sl (fun _=>True) (w.alloc (.cells (sgC x).toArray 184)) 3 (.slice (some ⟨g,0,none⟩) 1 1) 1 (sgC x):=by
 have:=KSl.new w 184 3 (by omega) (sgC x).toArray 1 (by omega) (by simp [maxLen]) (by simp [sgC]) hg;rw [List.toList_toArray]at this;exact Sl.more this fun _ _=>trivial
theorem Rr.at{w:World}{v:Value}{l:List Rcd}(h:Rr w v l):∃A c,v= .slice A l.length c∧l.length≤c∧c≤maxLen∧
 (0<l.length→∃b o,A=some ⟨b,o,none⟩∧b<w.heap.size∧z0H w b=some (some 131)∧∀j (hj:j<l.length),w.cell? ⟨b,o+j*2,none⟩=some (.int .u64 (l[j].1:Int))∧w.cell? ⟨b,o+j*2+1,none⟩=some (.string (st l[j].2))):=by
 obtain⟨_,A,c,h2,h3,h4,h5,h6⟩:=h;refine⟨A,c,h2,h3,h4,fun hn=> ?_⟩;obtain⟨b,o,ha,hs,hc⟩:=h6 hn;refine⟨b,o,ha,z3B hs,hs,fun j hj=> ?_⟩;have key:∀ (l:List Rcd) (j:Nat) (hj:j<l.length),(rcs l)[j*2]? =some (.int .u64 (l[j].1:Int))∧(rcs l)[j*2+1]? =some (.string (st l[j].2)):=by
  intro l
  induction l with
  |nil=>intro j hj;cases hj
  |cons r rs ih=>
   intro j hj;rcases j with _|j
   ·exact⟨rfl,rfl⟩
   ·have:=ih j (by simpa using hj);rw [show(j+1)*2=j*2+1+1 by omega];simpa [rcs]using this
 have:=key l j hj;exact⟨hc _ _ this.1,by rw [Nat.add_assoc];exact hc _ _ this.2⟩
def z5E(x:Fd)(frm:Nat):List Rcd:=x.recs.filter fun r=>decide (frm<r.1)
theorem z29{e:TypeId}{size n B B':Nat}{w:World}{v:Value}{xs:List Value}(h:w.ownsRow B e size v n xs)(hB:B'≤B):w.ownsRow B' e size v n xs:=by
 obtain⟨h1,h2⟩:=h;refine⟨h1,?_⟩;rcases h2 with h2|⟨g,cap,cur,hv,hg,r⟩
 ·exact .inl h2
 ·exact .inr ⟨g,cap,cur,hv,Nat.le_trans hB hg,r⟩
def TkPost(gl hg:Nat)(a:Int)(n size:Nat)(sv:Value)(synced:Nat)(live:List Sg)(x:Fd)(frm B:Nat)(w:World)(e:Ending)(w':World):Prop:=
 ∃A k c A' k' c',e= .returned (.slice A k c)∧w'.ownsRow w.heap.size 131 2 (.slice A k c) (z5E x frm).length (rcs (z5E x frm))∧Lb w' gl hg a n size (.slice A' k' c') sv x.last synced∧
  w'.ownsRow B 184 3 (.slice A' k' c') (live.length+1) (z3z (live++ [x.sg]))∧Below B w w'∧SameK [some 192,some 131,some 64] w w'
theorem zH5(m:Nat):IntKind.u64.wrap ((m:Int)-1)=(((m+(U64-1))%U64:Nat):Int):=by
 simp only [IntKind.wrap,IntKind.bits,IntKind.signed];unfold U64;simp;omega
theorem zJH(x:Fd):x.last=(((x.base+x.recs.length)%U64)+(U64-1))%U64:=by
 unfold Fd.last;rw [Nat.mod_add_mod]
structure TkC(gl hg:Nat)(a:Int)(n size:Nat)(sv:Value)(last synced:Nat)(live:List Sg)(x:Sg)(cs:Array Value)(B:Nat)(w:World)(A:Option Addr)(k c:Nat)(W:World):Prop where
 lb:Lb W gl hg a n size (.slice A k c) sv last synced
 own:W.ownsRow B 184 3 (.slice A k c) (live.length+1) (z3z (live++ [x]))
 box:Blk W w.heap.size 192 cs
 below:Below B w W
 same:SameK [some 192,some 131,some 64] w W
 size:w.heap.size<W.heap.size
theorem tk_one{gl hg:Nat}{a:Int}{n size:Nat}{sv:Value}{last synced:Nat}{live:List Sg}{x:Sg}{cs:Array Value}{B:Nat}{w w1 w2:World}{A A2:Option Addr}{k c k2 c2:Nat}{o:Obj}{u:List Value}(hB:B≤w.heap.size)(hBg:B≤gl)(hl:Lb w1 gl hg a n size (.slice A k c) sv last synced)(hown:w1.ownsRow B 184 3 (.slice A k c) live.length (z3z live))
 (hb:Blk w1 w.heap.size 192 cs) (h1:Below w.heap.size w w1) (hs:w.heap.size<w1.heap.size) (hx:sgC x=u) (hown2:w2.ownsRow B 184 3 (.slice A2 k2 c2) (live.length+1) (z3z live++u)) (hgr:(w1.alloc o).grownBy w2 (Value.slice A k c).ownBlock):
 TkC gl hg a n size sv last synced live x cs B w A2 k2 c2 (w2.setCell ⟨gl,4,none⟩ (.slice A2 k2 c2)):=by
 have qa:=(Below.refl w1.heap.size w1).alloc (Nat.le_refl _) o;have ho:=World.ownsRow.alloc hown o;have hl2:Blk w2 gl _ _:=(hl.alloc o).kept ho hgr (by decide);have hb2:Blk w2 w.heap.size _ _:=(hb.alloc o).kept ho hgr (by decide);have hne:=hb2.ne hl2 (by decide);subst hx;refine⟨hl2.put 4 _,?_,hb2.far (p:=⟨gl,4,none⟩) hne _,?_,?_,?_⟩
 ·rw [zB0];exact z2c hown2 hl2 (by decide) 4 _
 ·exact(z01 (((h1.mono hB).trans (qa.mono (Nat.le_trans hB (Nat.le_of_lt hs))))) ho hgr (Nat.le_trans (Nat.le_trans hB (Nat.le_of_lt hs)) qa.size)).setCell hBg _
 ·refine(((SameK.below h1).trans (SameK.below qa)).trans (SameK.grown hgr fun z t hz ht=> ?_)).trans (SameK.setCell (p:=⟨gl,4,none⟩) hl2 (by decide) _);have:=z1V ho hz;rw [this]at ht;cases ht
  decide
 ·have h3:(w1.alloc o).heap.size≤w2.heap.size:=hgr.size;have h4:=qa.size;simp;omega
theorem zDL(gl hg:Nat)(a:Int)(n size:Nat)(lv sv:Value)(last synced:Nat)(live:List Sg)(x:Fd)(rv:Value)(frm B:Nat)(w:World)(hl:Lb w gl hg a n size lv sv last synced)(hown:w.ownsRow B 184 3 lv live.length (z3z live))(hB:B≤w.heap.size)(hBg:B≤gl)
 (hr:Rr w rv x.recs) (hlr:x.recs.length≤1000000) (hxb:x.base<U64) (hlive:live.length≤100) (hf:frm<U64):
 Calls Tryz.prog 104 #[.pointer (some ⟨gl,0,none⟩),.agg #[.int .i64 (x.at':Int),.int .u64 (x.base:Int),.int .u64 (x.recs.length:Int),rv],.int .u64 (frm:Int)] w (TkPost gl hg a n size sv synced live x frm B w):=by
 obtain⟨Ar,cr,rfl,hlc,hcm,hA⟩:=hr.at;have HR:=zz hr;have HO:=zz hown;have HL:=zz hl;have hx3:x.sg.count=x.recs.length:=Nat.mod_eq_of_lt (by unfold U64;omega);have HX3:=zz hx3;obtain⟨Al,kl,cl,rfl⟩:=z0u hown;clear hr hl hA hx3;have q1:Below B w (w.alloc (.cells #[.int .i64 (x.at':Int),.int .u64 (x.base:Int),.int .u64 (x.recs.length:Int),.slice Ar x.recs.length cr] 192)):=(Below.refl _ _).alloc hB _;have hb:=Blk.new w 192 #[.int .i64 (x.at':Int),.int .u64 (x.base:Int),.int .u64 (x.recs.length:Int),.slice Ar x.recs.length cr];have qa:=(Below.refl w.heap.size w).alloc (Nat.le_refl _) (.cells #[.int .i64 (x.at':Int),.int .u64 (x.base:Int),.int .u64 (x.recs.length:Int),.slice Ar x.recs.length cr] 192);have hl1:Blk _ gl _ _:=HL.out.later qa;have HO1:=zz (z1T HO.out qa);have HR1:=zz (KSl.later HR.out qa);have hz1:w.heap.size<(w.alloc (.cells #[.int .i64 (x.at':Int),.int .u64 (x.base:Int),.int .u64 (x.recs.length:Int),.slice Ar x.recs.length cr] 192)).heap.size:=by simp
 clear hown;go_enter Tryz.func104,Tryz.ntmps104
 go_wp2_with fail
 generalize hw1:w.alloc _=w1 at*;clear hw1;have l4:w1.cell? ⟨gl,4,none⟩=some (.slice Al kl cl):=hl1.cell 4;have b0:w1.cell? ⟨w.heap.size,0,none⟩=some (.int .i64 (x.at':Int)):=hb.cell 0;have b1:w1.cell? ⟨w.heap.size,1,none⟩=some (.int .u64 (x.base:Int)):=hb.cell 1;have b2:w1.cell? ⟨w.heap.size,2,none⟩=some (.int .u64 (x.recs.length:Int)):=hb.cell 2;have a4:(w1.alloc (.cells #[.int .i64 (x.at':Int),.int .u64 (x.base:Int),.int .u64 (x.recs.length:Int)] 184)).cell? ⟨gl,4,none⟩=some (.slice Al kl cl):=(hl1.alloc _).cell 4;have HSG:Hid (sgC x.sg= [.int .i64 (x.at':Int),.int .u64 (x.base:Int),.int .u64 (x.recs.length:Int)]):=by rw [Hid,sgC,HX3.out];rfl
 have hs1:=Sl.newsg w1 x.sg rfl;rw [HSG.out]at hs1;have HS1:=zz hs1;have HB1:=zz hb;have HL1:=zz hl1;have hone:=zz (by have:=zC9 x.sg;rw [HSG.out]at this;exact this);clear hs1 hb hl1;have HQA:=zz qa;clear qa;go_cut [] (fun wx=>∃A2 k2 c2,Hid (TkC gl hg a n size sv last synced live x.sg #[.int .i64 (x.at':Int),.int .u64 (x.base:Int),.int .u64 (x.recs.length:Int),.slice Ar x.recs.length cr] B w A2 k2 c2 wx))
 case first=>
  go_region_law (refine z3E (w1.alloc (.cells #[.int .i64 (x.at':Int),.int .u64 (x.base:Int),.int .u64 (x.recs.length:Int)] 184)) (by first|exact⟨0,rfl⟩|exact⟨1,rfl⟩|exact⟨2,rfl⟩|exact⟨3,rfl⟩) rfl (.tmp 14) (.tmp 17) zFk rfl (World.ownsRow.alloc HO1.out _) HS1.out rfl rfl hone.out (by simp only [maxLen];omega) (by omega) (by simp;omega) ?_;intro A2 k2 c2 w2 hown2 hg2;have hl2:=(HL1.out.alloc _).kept (World.ownsRow.alloc HO1.out _) hg2 (by decide);have g0:=hl2.free 4;have g2:=hl2.cell 4;simp [lgC]at g2)
  all_goals
   have TC:=tk_one (hB:=hB) (hBg:=hBg) HL1.out HO1.out HB1.out HQA.out hz1 HSG.out hown2 hg2;go_wp2_with fail
   go_meet
   first
    |exact⟨A2,k2,c2,TC.drew⟩
    |exact⟨A2,k2,c2,TC⟩
    |exact⟨A2,k2,c2,TC.drew.drew⟩
 obtain⟨A2,k2,c2,TC⟩:=hcut;have HRC:=zz (KSl.same HR.out TC.out.same (by decide));have l6:wc.cell? ⟨gl,6,none⟩=some (.int .u64 (last:Int)):=TC.out.lb.cell 6;have f6:=TC.out.lb.free 6;have b1:wc.cell? ⟨w.heap.size,1,none⟩=some (.int .u64 (x.base:Int)):=TC.out.box.cell 1;have b2:wc.cell? ⟨w.heap.size,2,none⟩=some (.int .u64 (x.recs.length:Int)):=TC.out.box.cell 2;have b3:wc.cell? ⟨w.heap.size,3,none⟩=some (.slice Ar x.recs.length cr):=TC.out.box.cell 3;have hwa:=z4i x.base x.recs.length;have hwb:IntKind.u64.wrap ((((x.base+x.recs.length)%U64:Nat):Int)-1)=((x.last:Nat):Int):=by rw [zH5,zJH]
 have hwb2:IntKind.u64.wrap (((x.base:Int)+(x.recs.length:Int))%(U64:Int)-1)=((x.last:Nat):Int):=by
  rw [←hwb]
  push_cast
  rfl
 have hgb:w.heap.size≠gl:=TC.out.box.ne TC.out.lb (by decide);have L3:Hid (Lb (wc.setCell ⟨gl,6,none⟩ (.int .u64 (x.last:Int))) gl hg a n size (.slice A2 k2 c2) sv x.last synced):=TC.out.lb.put 6 _;have O3:=zz (z2c TC.out.own TC.out.lb (by decide) 6 (.int .u64 (x.last:Int)));have Q3:=zz (TC.out.below.setCell (p:=⟨gl,6,none⟩) hBg (.int .u64 (x.last:Int)));have K3:=zz (TC.out.same.trans (SameK.setCell (p:=⟨gl,6,none⟩) TC.out.lb (by decide) (.int .u64 (x.last:Int))));have R3:=zz (KSl.same HRC.out (SameK.setCell (ks:= [some 131]) (p:=⟨gl,6,none⟩) TC.out.lb (by decide) (.int .u64 (x.last:Int))) (by decide));have Z3:Hid (w.heap.size≤(wc.setCell ⟨gl,6,none⟩ (.int .u64 (x.last:Int))).heap.size):=by have:=TC.out.size;simp [Hid];omega
 clear TC HRC HR HO HL HB1 HL1 HO1 HR1 HS1 hone HSG HX3 HQA q1 hz1 l4 b0 a4;go_wp2_with fail
 generalize wc.setCell _ _=w3 at*;clear l6 f6 b1 b2 b3 hwa hwb hwb2 hgb;have OB:Hid (w3.heap.size≤w3.heap.size):=Nat.le_refl _;go_loopw [7,35] (fun ov kv wr=>∃ (i:Nat) (A:Option Addr) (m c:Nat),ov= .slice A m c∧kv= .int .i64 (i:Int)∧i≤x.recs.length∧Hid (wr.ownsRow w3.heap.size 131 2 (.slice A m c) ((x.recs.take i).filter fun r=>decide (frm<r.1)).length (rcs ((x.recs.take i).filter fun r=>decide (frm<r.1))))∧Hid (Below w3.heap.size w3 wr)) (fun _ kv _=>x.recs.length-(intOf kv).toNat)
 case atStart=>exact⟨0,none,0,0,rfl,rfl,Nat.zero_le _,World.ownsRow_nil _ _ _ _,Below.refl _ _⟩
 case round=>
  obtain⟨i,A,m,c,rfl,rfl,hi,OW,BL⟩:=hrel;by_cases hlt:i<x.recs.length
  ·obtain⟨A',c',he,_,_,hat⟩:=Rr.at (KSl.later R3.out BL.out);injection he with e1 _ e3
   subst e1 e3;obtain⟨b,o,rfl,hbl,hkb,hcell⟩:=hat (by omega);obtain⟨r0,r1⟩:=hcell i hlt;have HT:Hid (x.recs.take (i+1)=x.recs.take i++ [x.recs[i]]):=by rw [Hid,List.take_add_one,List.getElem?_eq_getElem hlt];rfl
   have hlen:Hid (((x.recs.take i).filter fun r=>decide (frm<r.1)).length≤1000000):=by
    have h1:=List.length_filter_le (fun r:Rcd=>decide (frm<r.1)) (x.recs.take i);rw [List.length_take]at h1;rw [Hid];omega
   clear hcell hat;generalize x.recs[i]=r at*;obtain⟨q,t⟩:=r;simp only at r0 r1;have QA:=zz (BL.out.trans (((Below.refl wr.heap.size wr).alloc (Nat.le_refl _) (.cells #[.int .u64 (q:Int),.string (st t)] 131)).mono BL.out.size));have OA:=zz (z1T OW.out ((Below.refl wr.heap.size wr).alloc (Nat.le_refl _) (.cells #[.int .u64 (q:Int),.string (st t)] 131)));by_cases hq:frm<q
   ·have hq2:(frm:Int)<(q:Int):=by omega
    have HF:Hid ((x.recs.take (i+1)).filter (fun r=>decide (frm<r.1))=(x.recs.take i).filter (fun r=>decide (frm<r.1))++ [(q,t)]):=by rw [Hid,HT.out,List.filter_append];simp [hq]
    have HQ:=zz hq;generalize hF:(x.recs.take i).filter (fun r=>decide (frm<r.1))=F at*;clear hF hq;have hM1:Hid (F.length+1≤maxLen):=by have:=hlen.out;simp only [Hid,maxLen];omega
    have hM2:Hid ((F.length+1)*24≤140737488355328):=by have:=hlen.out;rw [Hid];omega
    have hM3:Hid (∀o o':Obj,w3.heap.size≤((wr.alloc o).alloc o').heap.size):=fun o o'=>by have:=BL.out.size;simp;omega
    go_wp2_with (at_builtin;refine z02 _ rfl (.tmp 43) (.tmp 45) zBT rfl (World.ownsRow.alloc OA.out _) (Sl.newrec (S:=fun _=>True) (g:=wr.heap.size+1) _ (q,t) (by simp) trivial) rfl rfl (zBV _) hM1.out hM2.out (hM3.out _ _) ?_;intro A8 k8 c8 w8 hown8 hg8 hat8)
    have B8:=zz (z01 (QA.out.alloc (Nat.le_trans QA.out.size (Nat.le_refl _)) _) (World.ownsRow.alloc OA.out _) hg8 (hM3.out _ _));have O8:Hid (w8.ownsRow w3.heap.size 131 2 (.slice A8 k8 c8) ((x.recs.take (i+1)).filter (fun r=>decide (frm<r.1))).length (rcs ((x.recs.take (i+1)).filter (fun r=>decide (frm<r.1))))):=by
     rw [Hid,HF.out,List.length_append,z5f];exact hown8
    go_roundw
    case rel=>exact⟨i+1,A8,k8,c8,rfl,by go_num,by omega,O8,B8⟩
    case measure=>simp [intOf];omega
   ·have hq2:(q:Int)≤(frm:Int):=by omega
    have HF:Hid ((x.recs.take (i+1)).filter (fun r=>decide (frm<r.1))=(x.recs.take i).filter (fun r=>decide (frm<r.1))):=by rw [Hid,HT.out,List.filter_append];simp [hq]
    clear hq;have OA2:Hid ((wr.alloc (.cells #[.int .u64 (q:Int),.string (st t)] 131)).ownsRow w3.heap.size 131 2 (.slice A m c) ((x.recs.take (i+1)).filter (fun r=>decide (frm<r.1))).length (rcs ((x.recs.take (i+1)).filter (fun r=>decide (frm<r.1))))):=by
     rw [Hid,HF.out];exact OA.out
    go_wp2_with fail
    go_roundw
    case rel=>exact⟨i+1,A,m,c,rfl,by go_num,by omega,OA2,QA⟩
    case measure=>simp [intOf];omega
  ·obtain rfl:i=x.recs.length:=by omega
   have ho:=OW.out;rw [List.take_length]at ho;go_wp2_with fail
   go_ret
   exact⟨A,m,c,A2,k2,c2,rfl,z29 ho Z3.out,L3.out.later BL.out,z1T O3.out BL.out,Q3.out.trans (BL.out.mono (Nat.le_trans hB Z3.out)),K3.out.trans (SameK.below BL.out)⟩
end
section
open Go
theorem z2A:∀ (n:Nat) (l:List Nat),l.Nodup→(∀x∈l,x<n)→l.length≤n
 |0,l,_,h=>by
  cases l with
  |nil=>simp
  |cons a l=>have:=h a (by simp);omega
 |n+1,l,hd,h=>by
  by_cases hm:n∈l
  ·have h1:=z2A n (l.erase n) (hd.erase n) (fun x hx=>by
    have h2:=(hd.mem_erase_iff).1 hx;have:=h x h2.2;have:=h2.1;omega)
   rw [List.length_erase_of_mem hm]at h1;omega
  ·have:=z2A n l hd (fun x hx=>by
    have h2:=h x hx;have:x≠n:=fun e=>hm (e▸hx)
    omega)
   omega
structure ChSt(all:List Fd)(frm n:Nat)(live:List Sg)(last:Nat)(out:List Rcd)(nx:Option Fd):Prop where
 eq:∃k,live.length+k=n+1∧z2Y all frm k live last out nx=z2Y all frm (n+1) [] frm [] (z1j frm all none)
 nd:(live.map (·.at')).Nodup
 lt:∀s∈live,s.at'<n
 nx:∀x,nx=some x→z0v live x.at'=false∧x∈all
 out:out.length≤live.length*40000
 last:last<U64
theorem ChSt.start{all:List Fd}{frm n:Nat}(hf:frm<U64):ChSt all frm n [] frm [] (z1j frm all none):=
 ⟨⟨n+1,by simp,rfl⟩,by simp,by simp,fun x h=>⟨rfl,(z6c frm _ _ h).resolve_right (by simp)⟩,by simp,hf⟩
theorem ChSt.len{all:List Fd}{frm n:Nat}{live:List Sg}{last:Nat}{out:List Rcd}{nx:Option Fd}(s:ChSt all frm n live last out nx):live.length≤n:=by
 have:=z2A n (live.map (·.at')) s.nd (fun x hx=>by
  obtain⟨y,hy,rfl⟩:=List.mem_map.1 hx;exact s.lt y hy)
 simpa using this
theorem ChSt.next{all:List Fd}{frm n:Nat}{live:List Sg}{last:Nat}{out:List Rcd}{x:Fd}(s:ChSt all frm n live last out (some x))(hall:∀y∈all,y.at'<n∧y.recs.length≤40000):
 ChSt all frm n (live++ [x.sg]) x.last (out++x.recs.filter fun r=>decide (frm<r.1)) (z7W all (live++ [x.sg]) x.last):=by
 obtain⟨k,hk,he⟩:=s.eq;obtain⟨hu,hx⟩:=s.nx x rfl;have hxn:=hall x hx;have hnd:((live++ [x.sg]).map (·.at')).Nodup:=by
  rw [List.map_append,List.nodup_append];refine⟨s.nd,by simp,fun a ha b hb=> ?_⟩;simp only [List.map_cons,List.map_nil,List.mem_singleton]at hb;subst hb;rintro rfl;obtain⟨y,hy,e⟩:=List.mem_map.1 ha;have:z0v live x.at'=true:=z1c.2 ⟨y,hy,e⟩;rw [hu]at this;cases this
 have hlt:∀s∈live++ [x.sg],s.at'<n:=fun y hy=>by
  rw [List.mem_append,List.mem_singleton]at hy;rcases hy with hy|rfl
  ·exact s.lt y hy
  ·exact hxn.1
 have hl:=z2A n _ hnd (fun z hz=>by
  obtain⟨y,hy,rfl⟩:=List.mem_map.1 hz;exact hlt y hy)
 rw [List.length_map,List.length_append,List.length_singleton]at hl;obtain⟨k,rfl⟩:∃j,k=j+1:=⟨k-1,by omega⟩;refine⟨⟨k,by rw [List.length_append,List.length_singleton];omega,?_⟩,hnd,hlt,fun y hy=> ?_,?_,?_⟩
 ·rw [←he,z2Y]
 ·have:=z8y hy;exact⟨this.2.2,this.1⟩
 ·have h1:=List.length_filter_le (fun r:Rcd=>decide (frm<r.1)) x.recs;have h2:=s.out;rw [List.length_append,List.length_append,List.length_singleton];omega
 ·exact Nat.mod_lt _ (by unfold U64;omega)
theorem ChSt.end{all:List Fd}{frm n:Nat}{live:List Sg}{last:Nat}{out:List Rcd}(s:ChSt all frm n live last out none):z2Y all frm (n+1) [] frm [] (z1j frm all none)=(live,last,out):=by
 obtain⟨k,_,he⟩:=s.eq;rw [←he];cases k<;>rfl
structure Wl.Ok(l:Wl):Prop where
 dok:l.D.Ok
 n2:2≤l.n
 n64:l.n≤64
 s1:1≤l.size
 s64:l.size≤64
 a0:0≤l.a
 a1:l.a+(l.n:Int)*l.size≤65536
 last:l.last<U64
 synced:l.synced<U64
 nd:(l.live.map (·.at')).Nodup
 lt:∀s∈l.live,s.at'<l.n
 str:l.stream≠ []→l.live≠ []
 slen:l.stream.length≤512*l.size
theorem Wl.Ok.len{l:Wl}(h:l.Ok):l.live.length≤l.n:=by
 have:=z2A l.n (l.live.map (·.at')) h.nd (fun x hx=>by
  obtain⟨y,hy,rfl⟩:=List.mem_map.1 hx;exact h.lt y hy)
 simpa using this
theorem Wl.Ok.am{l:Wl}(h:l.Ok):l.a≤65536:=by
 have:=h.a1;have h2:(0:Int)≤(l.n:Int)*l.size:=Int.mul_nonneg (by omega) (by omega);omega
theorem z96:∀ (l:List Sg),(z4a l).map (·.at')=l.map (·.at')
 | []=>rfl
 | [s]=>rfl
 |s::t::r=>by
  have:=z96 (t::r);simp only [z4a,List.map_cons]at this ⊢;rw [this]
theorem z3R(s:Sg):∀ (l:List Sg),z4a (l++ [s])=l++ [{s with count:=(s.count+1)%U64}]
 | []=>rfl
 | [t]=>rfl
 |t::u::r=>by
  have:=z3R s (u::r);simp only [List.cons_append,z4a]at this ⊢;rw [this]
theorem z4k{live:List Sg}{n i:Nat}(h:z2k live n=some i):i<n∧z0v live i=false:=by
 unfold z2k at h;have h1:=List.find?_some h;have h2:=List.mem_of_find?_eq_some h;exact⟨List.mem_range.1 h2,by simpa using h1⟩
theorem zFV{live:List Sg}{n i:Nat}(hi:i<n)(hb:∀j,j<i→z0v live j=true)(hu:z0v live i=false):z2k live n=some i:=by
 unfold z2k;rw [List.find?_range_eq_some];exact⟨by simp [hu],List.mem_range.2 hi,fun j hj=>by simp [hb j hj]⟩
theorem zBe{live:List Sg}{n:Nat}(hb:∀j,j<n→z0v live j=true):z2k live n=none:=by
 unfold z2k;rw [List.find?_eq_none];intro x hx;simp [hb x (List.mem_range.1 hx)]
structure ApC(l:Wl)(q:Nat)(head b:List UInt8)(L:List Sg)(s:List UInt8)(i:Nat)(fr:Bool):Prop where
 fresh:fr=true→(l.stream= []∨512*l.size<l.stream.length+b.length)∧z2k l.live l.n=some i∧L=l.live++ [⟨i,q,0⟩]∧s=head
 old:fr=false→¬ (l.stream= []∨512*l.size<l.stream.length+b.length)∧L=l.live∧s=l.stream∧((l.live.getLast?).map (·.at')).getD 0=i
def z1v(l:Wl)(fr:Bool):Nat:=if fr then 0 else l.stream.length
section
variable {l:Wl} {q:Nat} {t head b:List UInt8} {L:List Sg} {s:List UInt8} {i:Nat} {fr:Bool}
theorem z4R(hq:q=(l.last+1)%U64)(hh:head=z1N q titleB)(hb:b=z1N q t)(ht:¬ (32768<t.length∨512*l.size<head.length+b.length))(c:ApC l q head b L s i fr)
 {r:Dsk×Nat} (hr:z3b l.D (l.a+(i:Int)*l.size) (s++b) (s++b).length (z1v l fr / 512)=r) (h0:r.2=0):
 z0F l t=({l with D:=r.1,live:=z4a L,stream:=s++b,last:=q},q,0):=by
 subst hq hh hb;unfold z0F;rw [if_neg ht];cases fr with
 |true=>
  obtain⟨h1,h2,rfl,rfl⟩:=c.fresh rfl;rw [if_pos h1,h2];simp only [z1v,if_true,Nat.zero_div]at hr;simp only [hr,h0,if_true]
 |false=>
  obtain⟨h1,rfl,rfl,h4⟩:=c.old rfl;rw [if_neg h1];simp only [z1v,Bool.false_eq_true,if_false]at hr;simp only [h4,hr,h0,if_true]
theorem z8H(hq:q=(l.last+1)%U64)(hh:head=z1N q titleB)(hb:b=z1N q t)(ht:¬ (32768<t.length∨512*l.size<head.length+b.length))(c:ApC l q head b L s i fr)
 {r:Dsk×Nat} (hr:z3b l.D (l.a+(i:Int)*l.size) (s++b) (s++b).length (z1v l fr / 512)=r) (h0:r.2≠0):
 z0F l t=(if fr then(({l with D:=z2f r.1 (l.a+(i:Int)*l.size) l.size,stream:= []}:Wl).sync,0,r.2)else({l with D:=r.1,stream:= []},0,r.2)):=by
 subst hq hh hb;unfold z0F;rw [if_neg ht];cases fr with
 |true=>
  obtain⟨h1,h2,rfl,rfl⟩:=c.fresh rfl;rw [if_pos h1,h2];simp only [z1v,if_true,Nat.zero_div]at hr;simp only [hr,h0,if_true,if_false]
 |false=>
  obtain⟨h1,rfl,rfl,h4⟩:=c.old rfl;rw [if_neg h1];simp only [z1v,Bool.false_eq_true,if_false]at hr;simp only [h4,hr,h0,if_false,Bool.false_eq_true]
theorem ApC.lens(c:ApC l q head b L s i fr)(ok:l.Ok)(ht:¬ (32768<t.length∨512*l.size<head.length+b.length)):
 (s++b).length≤512*l.size∧i<l.n∧z1v l fr≤(s++b).length∧z0v l.live i= !fr∧L.length≤l.n:=by
 cases fr with
 |true=>
  obtain⟨h1,h2,rfl,rfl⟩:=c.fresh rfl;have h3:=z4k h2;refine⟨by rw [List.length_append];omega,h3.1,by simp [z1v],h3.2,?_⟩;have hnd:((l.live++ [(⟨i,q,0⟩:Sg)]).map (fun s:Sg=>s.at')).Nodup:=by
   rw [List.map_append,List.nodup_append];refine⟨ok.nd,by simp,fun x hx y hy e9=> ?_⟩;simp only [List.map_cons,List.map_nil,List.mem_singleton]at hy;obtain⟨z,hz,e⟩:=List.mem_map.1 hx;have:z0v l.live i=true:=z1c.2 ⟨z,hz,(e.trans e9).trans hy⟩;rw [h3.2]at this;cases this
  have:=z2A l.n _ hnd (fun x hx=>by
   rw [List.map_append,List.mem_append]at hx;rcases hx with hx|hx
   ·obtain⟨z,hz,rfl⟩:=List.mem_map.1 hx;exact ok.lt z hz
   ·simp only [List.map_cons,List.map_nil,List.mem_singleton]at hx;rw [hx];exact h3.1)
  simpa using this
 |false=>
  obtain⟨h1,rfl,rfl,h4⟩:=c.old rfl;have hne:l.live≠ []:=ok.str (fun e=>h1 (.inl e));have hm:=List.getLast_mem hne;rw [List.getLast?_eq_some_getLast hne]at h4;simp only [Option.map_some,Option.getD_some]at h4;subst h4;refine⟨by rw [List.length_append];omega,ok.lt _ hm,by simp [z1v],?_,ok.len⟩;simp only [Bool.not_false];exact z1c.2 ⟨_,hm,rfl⟩
theorem ApC.ne(c:ApC l q head b L s i fr)(ok:l.Ok):∃L0 s0,L=L0++ [s0]∧s0.at'=i:=by
 cases fr with
 |true=>
  obtain⟨h1,h2,rfl,rfl⟩:=c.fresh rfl;exact⟨_,_,rfl,rfl⟩
 |false=>
  obtain⟨h1,rfl,rfl,h4⟩:=c.old rfl;have hne:l.live≠ []:=ok.str (fun e=>h1 (.inl e));rw [List.getLast?_eq_some_getLast hne]at h4;simp only [Option.map_some,Option.getD_some]at h4;exact⟨_,_,(List.dropLast_concat_getLast hne).symm,h4⟩
theorem ApC.ok(c:ApC l q head b L s i fr)(ok:l.Ok)(hq:q<U64)(ht:¬ (32768<t.length∨512*l.size<head.length+b.length)){D:Dsk}(hD:D.Ok):({l with D:=D,live:=z4a L,stream:=s++b,last:=q}:Wl).Ok:=by
 have hl:=c.lens (t:=t) ok ht;have hin:(L.map (·.at')).Nodup∧∀x∈L,x.at'<l.n:=by
  cases fr with
  |true=>
   obtain⟨h1,h2,rfl,rfl⟩:=c.fresh rfl;have h3:=z4k h2;refine⟨?_,fun x hx=> ?_⟩
   ·rw [List.map_append,List.nodup_append];refine⟨ok.nd,by simp,fun x hx y hy e9=> ?_⟩;simp only [List.map_cons,List.map_nil,List.mem_singleton]at hy;obtain⟨z,hz,e⟩:=List.mem_map.1 hx;have:z0v l.live i=true:=z1c.2 ⟨z,hz,(e.trans e9).trans hy⟩;rw [h3.2]at this;cases this
   ·rw [List.mem_append,List.mem_singleton]at hx;rcases hx with hx|rfl
    ·exact ok.lt x hx
    ·exact h3.1
  |false=>
   obtain⟨h1,rfl,rfl,h4⟩:=c.old rfl;exact⟨ok.nd,ok.lt⟩
 refine⟨hD,ok.n2,ok.n64,ok.s1,ok.s64,ok.a0,ok.a1,hq,ok.synced,by rw [z96];exact hin.1,fun x hx=> ?_,fun _ e=> ?_,hl.1⟩
 ·have:x.at'∈(z4a L).map (·.at'):=List.mem_map.2 ⟨x,hx,rfl⟩;rw [z96]at this;obtain⟨z,hz,e⟩:=List.mem_map.1 this;rw [←e];exact hin.2 z hz
 ·obtain⟨L0,s0,rfl,_⟩:=c.ne ok;have e2:(z4a (L0++ [s0]))= []:=e;rw [z3R]at e2;simp at e2
end
theorem Wl.Ok.drop{l:Wl}(ok:l.Ok){D:Dsk}(hD:D.Ok):({l with D:=D,stream:= []}:Wl).Ok:=⟨hD,ok.n2,ok.n64,ok.s1,ok.s64,ok.a0,ok.a1,ok.last,ok.synced,ok.nd,ok.lt,fun h=>(h rfl).elim,Nat.zero_le _⟩
theorem Wl.Ok.sync{l:Wl}(ok:l.Ok):l.sync.Ok:=⟨ok.dok.sync,ok.n2,ok.n64,ok.s1,ok.s64,ok.a0,ok.a1,ok.last,ok.last,ok.nd,ok.lt,ok.str,ok.slen⟩
def Lay(f:SF)(p:Int)(S:List UInt8)(size:Nat):Prop:=∀k,k<size→f (p+(k:Int))=if 512*k<S.length then some ((S.drop (512*k)).take 512)else none
theorem Lay.bytes:∀ (size:Nat) {f:SF} {p:Int} {S:List UInt8},Lay f p S size→S.length≤512*size→z1E f p size=S
 |0,f,p,S,_,hs=>by
  obtain rfl:S= []:=List.eq_nil_of_length_eq_zero (by omega);rfl
 |n+1,f,p,S,h,hs=>by
  have h0:=h 0 (by omega);simp only [Int.ofNat_zero,Int.add_zero,Nat.mul_zero,List.drop_zero]at h0;by_cases hl:0<S.length
  ·rw [if_pos hl]at h0;by_cases h5:S.length<512
   ·rw [z5v h0 (by rw [List.length_take];omega),List.take_of_length_le (by omega)]
   ·rw [z7D h0 (by rw [List.length_take];omega)];have h2:Lay f (p+1) (S.drop 512) n:=fun k hk=>by
     have:=h (k+1) (by omega);rw [show p+1+(k:Int)=p+((k+1:Nat):Int) by omega,this,List.length_drop,List.drop_drop,show 512+512*k=512*(k+1) by omega];by_cases h6:512*(k+1)<S.length
     ·rw [if_pos h6,if_pos (by omega)]
     ·rw [if_neg h6,if_neg (by omega)]
    rw [Lay.bytes n h2 (by rw [List.length_drop];omega),List.take_append_drop]
  ·rw [if_neg hl]at h0;rw [z3i h0];exact(List.eq_nil_of_length_eq_zero (by omega)).symm
theorem Lay.congr{f g:SF}{p:Int}{S:List UInt8}{size:Nat}(h:Lay f p S size)(he:∀k,k<size→g (p+(k:Int))=f (p+(k:Int))):Lay g p S size:=fun k hk=>by rw [he k hk];exact h k hk
theorem z1U:∀ (ts:List (List UInt8)) (f:Nat),(z05 f ts).length=ts.length
 | [],_=>rfl
 |t::ts,f=>by rw [z05,List.length_cons,z1U ts,List.length_cons]
theorem z4A:∀ (ts us:List (List UInt8)) (f:Nat),z05 f (ts++us)=z05 f ts++z05 (f+ts.length) us
 | [],us,f=>by simp [z05]
 |t::ts,us,f=>by
  rw [List.cons_append,z05,z4A ts us,z05,List.cons_append,List.length_cons,show f+1+ts.length=f+(ts.length+1) by omega]
theorem z4q:∀ (ts us:List (List UInt8)) (f:Nat),z3M f (ts++us)=z3M f ts++z3M (f+ts.length) us
 | [],us,f=>by simp [z3M]
 |t::ts,us,f=>by
  rw [List.cons_append,z3M,z4q ts us,z3M,List.append_assoc,List.length_cons,show f+1+ts.length=f+(ts.length+1) by omega]
theorem z8j:∀ (ts:List (List UInt8)) (f:Nat),z2r f ts (z3M f ts).length=(ts.length,(z3M f ts).length)
 | [],f=>rfl
 |t::ts,f=>by
  rw [z2r,z3M,List.length_append,if_pos (by omega),Nat.add_sub_cancel_left,z8j ts];rfl
theorem z4D:∀ (ts:List (List UInt8)) (f k:Nat),f+ts.length≤U64→f≤k+1→(z05 f ts).filter (fun r=>decide (k<r.1))=(z05 f ts).drop (k+1-f)
 | [],f,k,_,_=>by simp [z05]
 |t::ts,f,k,hs,hf=>by
  rw [List.length_cons]at hs;have hm:f%U64=f:=Nat.mod_eq_of_lt (by omega);rw [z05,List.filter_cons,hm];by_cases h:k<f
  ·have e:k+1-f=0:=by omega
   rw [if_pos (by simpa using h),e,List.drop_zero]
   congr 1
   rw [List.filter_eq_self];intro r hr;have key:∀ (ts:List (List UInt8)) (f:Nat),f+ts.length≤U64→∀r∈z05 f ts,f≤r.1:=by
    intro ts
    induction ts with
    |nil=>intro f _ r hr;cases hr
    |cons t ts ih=>
     intro f hs r hr;rw [List.length_cons]at hs;rw [z05,List.mem_cons]at hr;rcases hr with rfl|hr
     ·rw [Nat.mod_eq_of_lt (by omega)];exact Nat.le_refl _
     ·have:=ih (f+1) (by omega) r hr;omega
   have:=key ts (f+1) (by omega) r hr;simp;omega
  ·rw [if_neg (by simpa using h),z4D ts (f+1) k (by omega) (by omega),show k+1-f=(k+1-(f+1))+1 by omega,List.drop_succ_cons]
structure Sb where
 at':Nat
 base:Nat
 bs:List (List UInt8)
theorem zJ2{α:Type}{l:List α}(h:l≠ []):0<l.length:=by
 cases l with
 |nil=>exact(h rfl).elim
 |cons _ _=>simp
section
variable {l:Wl} {SB:List Sb}
theorem z6L{f:SF}{a:Int}{size i q:Nat}{rs:List Rcd}(h:z1Q f a size i=some (q,rs)):∀ {n},i<n→(⟨i,q,rs⟩:Fd)∈z3G f a size n
 |n+1,hi=>by
  rw [z25,List.mem_append];by_cases h2:i=n
  ·subst h2;right;rw [z5q h];simp
  ·exact .inl (z6L h (by omega))
end
def TornS(f:SF)(p:Int)(S:List UInt8)(n0 i:Nat):Prop:=
 (f (p+(i:Int))=none∧n0≤512*i)∨∃m,f (p+(i:Int))=some (((S.drop (512*i)).take 512).take m)∧(n0≤512*i+m∨512≤m)
theorem z7C{f:SF}{p:Int}{S:List UInt8}{n0:Nat}(h0:n0≤S.length):∀ (size k:Nat),n0≤512*(k+size)→(∀i,k≤i→i<k+size→TornS f p S n0 i)→
 ∃M,z1E f (p+(k:Int)) size=(S.drop (512*k)).take M∧n0≤512*k+M
 |0,k,hn,_=>⟨0,by simp [z1E],by omega⟩
 |size+1,k,hn,h=>by
  rw [z1E];rcases h k (Nat.le_refl _) (by omega)with⟨e,hk⟩|⟨m,e,hm⟩
  ·rw [e];exact⟨0,by simp,by omega⟩
  ·rw [e];simp only;have hl:(((S.drop (512*k)).take 512).take m).length=min m (min 512 (S.length-512*k)):=by simp
   split
   ·rename_i hlt;rw [hl]at hlt;refine⟨min m 512,by rw [List.take_take],?_⟩;omega
   ·rename_i hge;rw [hl]at hge;obtain⟨M,e2,h2⟩:=z7C h0 size (k+1) (by omega) fun i h1 h2=>h i (by omega) (by omega)
    rw [show p+(k:Int)+1=p+((k+1:Nat):Int) by omega,e2];refine⟨512+M,?_,by omega⟩;rw [List.take_take,Nat.min_eq_right (show 512≤m by omega),List.take_add,List.drop_drop,show 512*(k+1)=512*k+512 by omega]
theorem zAp{q:Nat}(hq:q<U64){ts:List (List UInt8)}{n:Nat}(h:n<(z1N q titleB).length):z4G ((z1N q titleB++z3M q ts).take n)=none:=by
 rw [List.take_append_of_le_length (by omega)];unfold z4G;rw [z8F hq (by decide) h]
theorem z8P{q:Nat}(hq:q<U64){ts:List (List UInt8)}(ht:∀t∈ts,t.length≤32768){n:Nat}(h:(z1N q titleB).length≤n)(h2:n≤(z1N q titleB++z3M q ts).length):
 z4G ((z1N q titleB++z3M q ts).take n)=some (q,(z05 q ts).take (z2r q ts (n-(z1N q titleB).length)).1):=by
 rw [List.length_append]at h2;rw [List.take_append,List.take_of_length_le h];unfold z4G;rw [z8W hq (by decide)];simp only [if_true,List.drop_left];rw [z7l ts q _ _ ht (by omega) (by simp;omega)]
def wrs(p:Int)(b:List UInt8):Nat→Nat→List Pnd
 |0,_=> []
 |m+1,k=>if 512*k<b.length then .wr (p+(k:Int)) ((b.drop (512*k)).take 512)::wrs p b m (k+1)else []
theorem z8G{p:Int}{b:List UInt8}:∀ (m k:Nat) (D D':Dsk),z3b D p b m k=(D',0)→D'.pend=D.pend++wrs p b m k∧D'.ground=D.ground∧D'.ng=D.ng
 |0,k,D,D',h=>by
  rw [z3b]at h;injection h with h _
  subst h;simp [wrs]
 |m+1,k,D,D',h=>by
  rw [z3b]at h;rw [wrs]
  split at h
  ·rename_i hk
   split at h
   ·rename_i hw;obtain⟨h1,h2,h3⟩:=z8G m (k+1) _ _ h;have e:D.write (p+(k:Int)) ((b.drop (512*k)).take 512)=D.put (.wr (p+(k:Int)) ((b.drop (512*k)).take 512)) ((b.drop (512*k)).take 512).length:=by unfold Dsk.write;rw [if_pos hw]
    rw [e]at h1 h2 h3;rw [if_pos hk];exact⟨by rw [h1];simp [Dsk.put],h2,h3⟩
   ·rename_i hw;injection h with _ h
    exact absurd h hw
  ·rename_i hk;injection h with h _
   subst h;rw [if_neg hk];simp
section
variable {l:Wl} {SB:List Sb}
end
theorem z65{α β:Type}{f:α→β}:∀ (l:List α),(∀x∈l,∀y∈l,f x=f y→x=y)→l.Nodup→(l.map f).Nodup
 | [],_,_=>by simp
 |x::xs,h,hd=>by
  rw [List.map_cons,List.nodup_cons];rw [List.nodup_cons]at hd;refine⟨fun hm=> ?_,z65 xs (fun y hy z hz=>h y (List.mem_cons_of_mem _ hy) z (List.mem_cons_of_mem _ hz)) hd.2⟩;obtain⟨y,hy,e⟩:=List.mem_map.1 hm;have:=h y (List.mem_cons_of_mem _ hy) x (List.mem_cons_self ..) e;subst this;exact hd.1 hy
theorem FinK.room{f:SF}{n:Nat}(h:FinK f n){lo x:Int}{M:Nat}(hk:∀y,(f y).isSome=true→lo≤y∧y<lo+M)(hx:f x=none)(h1:lo≤x)(h2:x<lo+M):n<M:=by
 obtain⟨ls,hf,_⟩:=h;have hnot:x∉ls.map (·.1):=fun hm=>by
  have:=(hf.has x).2 hm;rw [hx]at this;cases this
 have hin:∀y∈x::ls.map (·.1),lo≤y∧y<lo+M:=fun y hy=>by
  rcases List.mem_cons.1 hy with rfl|hy
  ·exact⟨h1,h2⟩
  ·exact hk y ((hf.has y).2 hy)
 have h3:=z2A M ((x::ls.map (·.1)).map fun y=>(y-lo).toNat) (z65 _ (fun y hy z hz e=>by
  have:=hin y hy;have:=hin z hz;omega) (List.nodup_cons.2 ⟨hnot,hf.nodup⟩)) (fun y hy=>by
  obtain⟨z,hz,rfl⟩:=List.mem_map.1 hy;have:=hin z hz;omega)
 rw [List.length_map,List.length_cons,List.length_map,hf.len]at h3;omega
theorem zHh{D:Dsk}(hD:D.Ok){lo x:Int}{M:Nat}{b:List UInt8}(hk:∀y,(D.view y).isSome=true→lo≤y∧y<lo+M)(h0:0≤lo)(hs:lo+M≤D.size)(hl:(M:Int)≤D.limit)(h1:lo≤x)(h2:x<lo+M)(hb:b.length≤512):D.why x b=0:=by
 unfold Dsk.why;rw [if_neg (by omega),if_neg (by omega),if_neg];rintro⟨h3,h4⟩;have:=hD.view.room hk (by simpa using h3) h1 h2;omega
structure MidW(D0 D:Dsk)(lo:Int)(M:Nat)(p:Int)(size:Nat)(s b:List UInt8)(k:Nat):Prop where
 view:∀j,j<size→D.view (p+(j:Int))=if j<k then(if 512*j<b.length then some ((b.drop (512*j)).take 512)else none)else(if 512*j<s.length then some ((s.drop (512*j)).take 512)else none)
 out:∀x,(x<p∨p+(size:Int)≤x)→D.view x=D0.view x
 keys:∀y,(D.view y).isSome=true→lo≤y∧y<lo+M
 ok:D.Ok
 lim:D.limit=D0.limit
 siz:D.size=D0.size
theorem zCs{D0:Dsk}{lo:Int}{M:Nat}{p:Int}{size:Nat}{s t:List UInt8}(h0:0≤lo)(hs:lo+M≤D0.size)(hl:(M:Int)≤D0.limit)(hp:lo≤p)(hp2:p+(size:Int)≤lo+M)(hb:(s++t).length≤512*size):
 ∀ (m k:Nat) (D:Dsk),(s++t).length≤512*(k+m)→s.length<512*(k+1)→MidW D0 D lo M p size s (s++t) k→
   ∃D',z3b D p (s++t) m k=(D',0)∧Lay D'.view p (s++t) size∧(∀x,(x<p∨p+(size:Int)≤x)→D'.view x=D0.view x)∧(∀y,(D'.view y).isSome=true→lo≤y∧y<lo+M)∧D'.Ok∧D'.limit=D0.limit∧D'.size=D0.size
 |m,k,D,hm,hk,c=>by
  by_cases hlt:512*k<(s++t).length
  ·match m with
   |0=>omega
   |m+1=>
    have hks:k<size:=by omega
    have hc:(((s++t).drop (512*k)).take 512).length≤512:=by rw [List.length_take];omega
    have hw:D.why (p+(k:Int)) (((s++t).drop (512*k)).take 512)=0:=zHh c.ok c.keys h0 (by rw [c.siz];exact hs) (by rw [c.lim];exact hl) (by omega) (by omega) hc;have hD:D.write (p+(k:Int)) (((s++t).drop (512*k)).take 512)=D.put (.wr (p+(k:Int)) (((s++t).drop (512*k)).take 512)) (((s++t).drop (512*k)).take 512).length:=by unfold Dsk.write;rw [if_pos hw]
    have hv:∀x,(D.write (p+(k:Int)) (((s++t).drop (512*k)).take 512)).view x=if x=p+(k:Int)then some (((s++t).drop (512*k)).take 512)else D.view x:=fun x=>by
     rw [hD];show(D.view.put _ (z2C _ _ _)) x=_;rw [zF1];rfl
    have hwr:z3b D p (s++t) (m+1) k=z3b (D.write (p+(k:Int)) (((s++t).drop (512*k)).take 512)) p (s++t) m (k+1):=by rw [z3b,if_pos hlt,if_pos hw]
    rw [hwr];refine zCs h0 hs hl hp hp2 hb m (k+1) _ (by omega) (by omega) ⟨fun j hj=> ?_,fun x hx=> ?_,fun y hy=> ?_,c.ok.write _ _,?_,?_⟩
    ·rw [hv];by_cases hjk:j=k
     ·subst hjk;rw [if_pos rfl,if_pos (by omega),if_pos hlt]
     ·rw [if_neg (by omega),c.view j hj];by_cases h5:j<k
      ·have h6:j<k+1:=by omega
       rw [if_pos h5,if_pos h6]
      ·have h6:¬j<k+1:=by omega
       rw [if_neg h5,if_neg h6]
    ·rw [hv,if_neg (by omega)];exact c.out x hx
    ·rw [hv]at hy;by_cases hyk:y=p+(k:Int)
     ·omega
     ·rw [if_neg hyk]at hy;exact c.keys y hy
    ·rw [hD];exact c.lim
    ·rw [hD];exact c.siz
  ·have he:z3b D p (s++t) m k=(D,0):=by
    cases m with
    |zero=>rfl
    |succ m=>rw [z3b,if_neg hlt]
   refine⟨D,he,fun j hj=> ?_,c.out,c.keys,c.ok,c.lim,c.siz⟩;rw [c.view j hj];by_cases h5:j<k
   ·rw [if_pos h5]
   ·have h6:s.length≤(s++t).length:=by simp
    rw [if_neg h5,if_neg (by omega),if_neg (by omega)]
theorem MidW.start{D0:Dsk}{lo:Int}{M:Nat}{p:Int}{size:Nat}{s t:List UInt8}(hD:D0.Ok)(hl:Lay D0.view p s size)(hk:∀y,(D0.view y).isSome=true→lo≤y∧y<lo+M):MidW D0 D0 lo M p size s (s++t) (s.length / 512):=by
 refine⟨fun j hj=> ?_,fun _ _=>rfl,hk,hD,rfl,rfl⟩;rw [hl j hj];by_cases h5:j<s.length / 512
 ·have h6:512*j+512≤s.length:=by omega
  rw [if_pos h5,if_pos (by omega),if_pos (by rw [List.length_append];omega),List.drop_append_of_le_length (by omega),List.take_append_of_le_length (by rw [List.length_drop];omega)]
 ·rw [if_neg h5]
theorem zE4(p:Int)(b:List UInt8)(m k:Nat)(D:Dsk):(z3b D p b m k).1.pend.length≤D.pend.length+m:=by
 induction m generalizing k D with
 |zero=>rw [z3b];simp
 |succ m ih=>
  rw [z3b]
  split
  ·split
   ·have h1:=ih (k+1) (D.write (p+(k:Int)) ((b.drop (512*k)).take 512));have h2:=z3q D (p+(k:Int)) ((b.drop (512*k)).take 512);omega
   ·simp
  ·simp
theorem zF9{a:Int}{n size i:Nat}(hi:i<n):a≤a+(i:Int)*size∧a+(i:Int)*size+size≤a+(n:Int)*size:=by
 have h1:i*size+size≤n*size:=by
  have:=Nat.mul_le_mul_right size (show i+1≤n by omega);rw [Nat.add_mul,Nat.one_mul]at this;exact this
 have e1:((i*size:Nat):Int)=(i:Int)*size:=by push_cast;rfl
 have e2:((n*size:Nat):Int)=(n:Int)*size:=by push_cast;rfl
 omega
theorem zJD{a:Int}{size i j k:Nat}(hij:i≠j)(hk:k<size):a+(j:Int)*size+k<a+(i:Int)*size∨a+(i:Int)*size+size≤a+(j:Int)*size+k:=by
 have e1:((i*size:Nat):Int)=(i:Int)*size:=by push_cast;rfl
 have e2:((j*size:Nat):Int)=(j:Int)*size:=by push_cast;rfl
 rcases Nat.lt_or_gt_of_ne hij with h|h
 ·have:=Nat.mul_le_mul_right size (show i+1≤j by omega);rw [Nat.add_mul,Nat.one_mul]at this;omega
 ·have:=Nat.mul_le_mul_right size (show j+1≤i by omega);rw [Nat.add_mul,Nat.one_mul]at this;omega
section
variable {l:Wl} {SB:List Sb}
end
end
end Go.Proofs.YthbhkdhljlganaaGreatDoor
