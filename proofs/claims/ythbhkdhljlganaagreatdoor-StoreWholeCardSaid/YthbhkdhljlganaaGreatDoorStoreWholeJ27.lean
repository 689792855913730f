/- Part 27. -/
import Derived.Test.YthbhkdhljlganaaGreatDoorStoreWholeJ26
import Derived.Deep.CutBlock
namespace Go.Proofs.YthbhkdhljlganaaGreatDoor
set_option linter.unusedVariables false
set_option maxHeartbeats 16000000
set_option maxRecDepth 100000
section
open Go
theorem zAo:∀ (ts:List (List UInt8)) (f n:Nat),(z2r f ts n).1≤ts.length
 | [],f,n=>by simp [z2r]
 |t::ts,f,n=>by
  rw [z2r]
  split
  ·have:=zAo ts (f+1) (n-(z1N (f%U64) t).length);simp only [List.length_cons];omega
  ·simp
theorem zA4:∀ (ts:List (List UInt8)) (f n i:Nat),i≤ts.length→(z3M f (ts.take i)).length≤n→i≤(z2r f ts n).1
 | [],f,n,i,hi,h=>by simp at hi;omega
 |t::ts,f,n,0,hi,h=>Nat.zero_le _
 |t::ts,f,n,i+1,hi,h=>by
  rw [List.take_succ_cons,z3M,List.length_append]at h;rw [z2r,if_pos (by omega)];have:=zA4 ts (f+1) (n-(z1N (f%U64) t).length) i (by simpa using hi) (by omega);show i+1≤_+1;omega
theorem zA1(f:Nat)(ts:List (List UInt8))(i:Nat):(z3M f (ts.take i)).length≤(z3M f ts).length:=by
 have e:ts=ts.take i++ts.drop i:=(List.take_append_drop i ts).symm
 conv=>rhs;rw [e,z4q,List.length_append]
 omega
theorem zEs(f:SF)(a:Int)(size:Nat):∀n,((z3G f a size n).map (·.at')).Nodup
 |0=>by simp [z3G]
 |n+1=>by
  rw [z25,List.map_append,List.nodup_append];refine⟨zEs f a size n,?_,?_⟩
  ·cases h:z1Q f a size n with
   |none=>rw [z5m h];simp
   |some x=>rw [z5q (q:=x.1) (rs:=x.2) h];simp
  ·intro i hi j hj e;obtain⟨y,hy,rfl⟩:=List.mem_map.1 hi;obtain⟨z,hz,rfl⟩:=List.mem_map.1 hj;have h1:=(z1r hy).1;have h2:=(zAL hz).1;omega
theorem zCY{f:SF}{a:Int}{size n:Nat}{y z:Fd}(hy:y∈z3G f a size n)(hz:z∈z3G f a size n)(h:y.at'=z.at'):y=z:=by
 have h1:=(z1r hy).2;have h2:=(z1r hz).2;rw [h,h2]at h1;obtain⟨i,b,r⟩:=y;obtain⟨i2,b2,r2⟩:=z;simp only at h h1;injection h1 with h1
 injection h1 with h3 h4
 rw [h,h3,h4]
variable {l:Wl} {k:Nat} {R:List (List UInt8)} {SB:List Sq}
theorem Lgr.bodies(g:Lgr l k R SB){x:Sq}(hx:x∈SB):x.bs=(R.drop (x.base-1)).take x.bs.length:=by
 have hrec:=g.segs.recs x.fd (List.mem_map.2 ⟨x,hx,rfl⟩);rw [Sq.fd_len]at hrec;exact z4F hrec
theorem Lgr.parts(g:Lgr l k R SB){all:List Fd}(hinj:∀y∈all,∀z∈all,y.at'=z.at'→y=z)(h:∀y∈all,∃x∈SB,y.at'=x.at'∧y.base=x.base∧∃j,j≤x.bs.length∧y.recs=z05 x.base (x.bs.take j)):Segs all l.n 1 R:=by
 have hcov:∀y∈all,∃x∈SB,y.at'=x.at'∧y.base=x.base∧(∀q,y.cov q→x.fd.cov q)∧y.base+y.recs.length≤x.base+x.bs.length∧y.recs=z5r 1 R y.base y.recs.length:=fun y hy=>by
  obtain⟨x,hx,h1,h2,j,hj,h3⟩:=h y hy;have hl:y.recs.length=j:=by rw [h3,z1U,List.length_take];omega
  refine⟨x,hx,h1,h2,fun q hq=>(x.cov_iff q).2 ⟨by rw [←h2];exact hq.1,?_⟩,by rw [hl,h2];omega,?_⟩
  ·have:=hq.2;rw [hl,h2]at this;omega
  ·rw [hl,h2,h3];unfold z5r
   congr 1
   have hb:=g.bodies hx
   conv=>lhs;rw [hb]
   rw [List.take_take,Nat.min_eq_left hj]
 refine⟨Nat.le_refl _,g.segs.small,?_,?_,?_,?_,?_,hinj,?_⟩
 ·intro y hy;obtain⟨x,hx,_,h2,_⟩:=hcov y hy;rw [h2];exact(g.base hx).1
 ·intro y hy;obtain⟨x,hx,_,h2,_,h4,_⟩:=hcov y hy;have:=(g.base hx).2.1;omega
 ·intro y hy;obtain⟨x,hx,_,h2,_,h4,h5⟩:=hcov y hy;exact h5
 ·intro y hy z hz q h1 h2;obtain⟨x,hx,e1,_,c1,_⟩:=hcov y hy;obtain⟨x',hx',e2,_,c2,_⟩:=hcov z hz;have:=g.disj hx hx' (c1 q h1) (c2 q h2);subst this;exact hinj y hy z hz (e1.trans e2.symm)
 ·intro y hy z hz ⟨h1,h2⟩;obtain⟨x,hx,_,e1,_⟩:=hcov y hy;obtain⟨x',hx',_,_,c2,_⟩:=hcov z hz;refine g.segs.bnd x.fd (List.mem_map.2 ⟨x,hx,rfl⟩) x'.fd (List.mem_map.2 ⟨x',hx',rfl⟩) ?_;have e:x.fd.base=y.base:=e1.symm;rw [e];exact⟨c2 _ h1,c2 _ h2⟩
 ·intro y hy;obtain⟨x,hx,e1,_⟩:=hcov y hy;rw [e1];exact(g.base hx).2.2.2
theorem zEz{all:List Fd}{n:Nat}(S:Segs all n 1 R):∀ (d k K0:Nat),k≤K0→K0+d=R.length→(∀q,k<q→q≤K0→∃y∈all,y.cov q)→∃K,K0≤K∧Upto all 1 R k K
 |0,k,K0,hk,hd,h=>by
  refine⟨K0,Nat.le_refl _,by omega,hk,by omega,h,fun y hy hc=> ?_⟩;have:=S.le y hy;have:=hc.2;omega
 |d+1,k,K0,hk,hd,h=>by
  by_cases hc:∃y∈all,y.cov (K0+1)
  ·obtain⟨K,h1,h2⟩:=zEz S d k (K0+1) (by omega) (by omega) fun q h1 h2=>by
    by_cases e:q=K0+1
    ·rw [e];exact hc
    ·exact h q h1 (by omega)
   exact⟨K,by omega,h2⟩
  ·exact⟨K0,Nat.le_refl _,by omega,hk,by omega,h,fun y hy h1=>hc ⟨y,hy,h1⟩⟩
theorem Lgr.torn(g:Lgr l k R SB)(ok:l.Ok)(lc:List (Int×Int)){x:Sq}(hx:x∈SB){m:Nat}(hm:x.sure=some m){j:Nat}(hj:j<l.size):TornS (l.D.crash lc).view (z3F l.a l.size x.at') x.bytes m j:=by
 refine z6v lc _ 0 _ (fun q hq=> ?_) ((g.op x hx m hm).torn j hj);obtain⟨y,hy,m',hm',j',hj',c,rfl,hen⟩:=g.pend q hq;refine⟨_,_,rfl,?_⟩;by_cases e:y.at'=x.at'
 ·obtain rfl:=g.inj hy hx e;rw [hm]at hm';injection hm' with hm'
  subst hm';by_cases e2:j'=j
  ·subst e2;exact .inr ⟨c,rfl,hen⟩
  ·left;omega
 ·exact .inl (z7F e hj' hj)
theorem Lgr.crash_look(g:Lgr l k R SB)(ok:l.Ok)(lc:List (Int×Int)){x:Sq}(hx:x∈SB){m:Nat}(hm:x.sure=some m):
 (∃j,j≤x.bs.length∧z1Q (l.D.crash lc).view l.a l.size x.at'=some (x.base,z05 x.base (x.bs.take j))∧∀q,x.fd.cov q→q≤l.synced→q<x.base+j)∨
 (z1Q (l.D.crash lc).view l.a l.size x.at'=none∧∀q,x.fd.cov q→¬q≤l.synced):=by
 have o:=g.op x hx m hm;have hle:=o.le;have hfit:=o.fit;have hB:=g.base hx;obtain⟨M,h1,h2⟩:=z7C (p:=z3F l.a l.size x.at') o.le l.size 0 (by omega) fun i _ hi=>g.torn ok lc hx hm (by omega)
 simp only [Int.natCast_zero,Int.add_zero,Nat.mul_zero,List.drop_zero,Nat.zero_add]at h1 h2;have hsure:∀q,x.fd.cov q→q≤l.synced→(z1N x.base titleB++z3M x.base (x.bs.take (q+1-x.base))).length≤m:=fun q hc hq=>by
  rcases g.sure x hx q hc hq with h|⟨m',h,h3⟩
  ·rw [hm]at h;cases h
  ·rw [hm]at h;injection h with h;subst h;exact h3
 have hbyt:x.bytes=z1N x.base titleB++z3M x.base x.bs:=rfl;unfold z1Q;rw [show l.a+(x.at':Int)*l.size=z3F l.a l.size x.at' from rfl,h1,hbyt];by_cases hM:M<(z1N x.base titleB).length
 ·right;refine⟨zAp (by unfold U64;omega) hM,fun q hc hq=> ?_⟩;have:=hsure q hc hq;rw [List.length_append]at this;omega
 ·left;have hn:(z1N x.base titleB++z3M x.base x.bs).take M=(z1N x.base titleB++z3M x.base x.bs).take (min M (z1N x.base titleB++z3M x.base x.bs).length):=by
   rw [←List.take_take,List.take_length]
  rw [hn];have hl:(z1N x.base titleB++z3M x.base x.bs).length=(z1N x.base titleB).length+(z3M x.base x.bs).length:=by rw [List.length_append]
  rw [z8P (by unfold U64;omega) (g.bod x hx) (by omega) (by omega),z5G];refine⟨_,zAo _ _ _,rfl,fun q hc hq=> ?_⟩;have h3:=hsure q hc hq;have h4:=(x.cov_iff q).1 hc;rw [hbyt]at hle;rw [List.length_append]at h3;have:=zA4 x.bs x.base (min M (z1N x.base titleB++z3M x.base x.bs).length-(z1N x.base titleB).length) (q+1-x.base) (by omega) (by omega);omega
theorem Lgr.crash_out(g:Lgr l k R SB)(lc:List (Int×Int)){y:Int}(h:∀x∈SB,x.sure≠none→∀j,j<l.size→y≠z3F l.a l.size x.at'+(j:Int)):(l.D.crash lc).view y=l.D.view y:=by
 rw [←g.quiet y h];refine z6t (S:=fun z=>z≠y) lc _ 0 _ (fun q hq=> ?_) y (fun h=>h rfl);obtain⟨z,hz,m',hm',j',hj',c,rfl,hen⟩:=g.pend q hq;exact⟨_,_,rfl,fun e=>h z hz (by rw [hm'];simp) j' hj' e.symm⟩
theorem Lgr.crashed(g:Lgr l k R SB)(ok:l.Ok)(hk:k≤l.synced)(lc:List (Int×Int)):
 Segs (z3G (l.D.crash lc).view l.a l.size l.n) l.n 1 R∧∃K,l.synced≤K∧Upto (z3G (l.D.crash lc).view l.a l.size l.n) 1 R k K:=by
 have hq:∀x∈SB,x.sure=none→z1Q (l.D.crash lc).view l.a l.size x.at'=some (x.base,z05 x.base x.bs):=fun x hx hs=>by
  rw [←g.look x hx hs];unfold z1Q;rw [show l.a+(x.at':Int)*l.size=z3F l.a l.size x.at' from rfl,z23 l.size fun j hj=>g.crash_out lc fun z hz hs2 j' hj'=> ?_];refine z7F (fun e=> ?_) hj hj';have:=g.inj hx hz e;subst this;exact hs2 hs
 have hno:∀i,i<l.n→(∀x∈SB,x.at'≠i)→z1Q (l.D.crash lc).view l.a l.size i=none:=fun i hi h=>by
  rw [←g.noLook hi h ok.s1];unfold z1Q;rw [show l.a+(i:Int)*l.size=z3F l.a l.size i from rfl,z23 l.size fun j hj=>g.crash_out lc fun z hz hs2 j' hj'=>z7F (Ne.symm (h z hz)) hj hj']
 have hS:Segs (z3G (l.D.crash lc).view l.a l.size l.n) l.n 1 R:=g.parts (fun y hy z hz h=>zCY hy hz h) fun y hy=>by
  obtain⟨h1,h2⟩:=z1r hy;by_cases hx:∃x∈SB,x.at'=y.at'
  ·obtain⟨x,hx,e⟩:=hx;rw [←e]at h2;cases hs:x.sure with
   |none=>
    rw [hq x hx hs]at h2;injection h2 with h2
    injection h2 with h3 h4
    exact⟨x,hx,e.symm,h3.symm,x.bs.length,Nat.le_refl _,by rw [List.take_length];exact h4.symm⟩
   |some m=>
    rcases g.crash_look ok lc hx hs with⟨j,hj,h5,_⟩|⟨h5,_⟩
    ·rw [h5]at h2;injection h2 with h2
     injection h2 with h3 h4
     exact⟨x,hx,e.symm,h3.symm,j,hj,h4.symm⟩
    ·rw [h5]at h2;cases h2
  ·rw [hno y.at' h1 fun x hx2 e=>hx ⟨x,hx2,e⟩]at h2;cases h2
 have hsy:=g.syn;have hla:=g.last;refine⟨hS,zEz hS (R.length-l.synced) k l.synced hk (by omega) fun q h1 h2=> ?_⟩;obtain⟨x,hx,hc⟩:=g.cov q h1 (by omega);have hB:=g.base hx;have h3:=(x.cov_iff q).1 hc;cases hs:x.sure with
 |none=>exact⟨x.fd,z6L (hq x hx hs) hB.2.2.2,hc⟩
 |some m=>
  rcases g.crash_look ok lc hx hs with⟨j,hj,h5,h6⟩|⟨_,h6⟩
  ·refine⟨⟨x.at',x.base,z05 x.base (x.bs.take j)⟩,z6L h5 hB.2.2.2,h3.1,?_⟩;rw [z1U,List.length_take];have:=h6 q hc h2;show q<x.base+_;omega
  ·exact absurd h2 (h6 q hc)
theorem Lgr.found(g:Lgr l k R SB)(ok:l.Ok)(hk:k≤l.last):Segs (z3G l.D.view l.a l.size l.n) l.n 1 R∧Upto (z3G l.D.view l.a l.size l.n) 1 R k R.length:=by
 have hla:=g.last;have hS:Segs (z3G l.D.view l.a l.size l.n) l.n 1 R:=g.parts (fun y hy z hz h=>zCY hy hz h) fun y hy=>by
  obtain⟨h1,h2⟩:=z1r hy;by_cases hx:∃x∈SB,x.at'=y.at'
  ·obtain⟨x,hx,e⟩:=hx;rw [←e,g.lookO hx]at h2;injection h2 with h2
   injection h2 with h3 h4
   exact⟨x,hx,e.symm,h3.symm,x.bs.length,Nat.le_refl _,by rw [List.take_length];exact h4.symm⟩
  ·rw [g.noLook h1 (fun x hx2 e=>hx ⟨x,hx2,e⟩) ok.s1]at h2;cases h2
 refine⟨hS,by omega,by omega,by omega,fun q h1 h2=> ?_,fun y hy hc=> ?_⟩
 ·obtain⟨x,hx,hc⟩:=g.cov q h1 h2;exact⟨x.fd,z6L (g.lookO hx) (g.base hx).2.2.2,hc⟩
 ·have:=hS.le y hy;have:=hc.2;omega
def Sq.synced(x:Sq):Sq:={x with sure:=x.sure.map fun _=>x.bytes.length}
theorem Lgr.sync(g:Lgr l k R SB):Lgr l.sync k R (SB.map Sq.synced):=by
 have hm:∀y,y∈SB.map Sq.synced→∃x∈SB,y=x.synced:=fun y hy=>by
  obtain⟨x,hx,rfl⟩:=List.mem_map.1 hy;exact⟨x,hx,rfl⟩
 have hb:∀x∈SB,x.synced∈SB.map Sq.synced:=fun x hx=>List.mem_map.2 ⟨x,hx,rfl⟩
 have hfd:(SB.map Sq.synced).map Sq.fd=SB.map Sq.fd:=by rw [List.map_map];rfl
 have hat:(SB.map Sq.synced).map (·.at')=SB.map (·.at'):=by rw [List.map_map];rfl
 refine⟨by rw [hfd];exact g.segs,by rw [hat];exact g.nd,g.lens,?_,?_,fun _ _=>rfl,?_,?_,fun q hq=>(by cases hq),g.last,?_,?_,?_,g.low,g.lim,g.fit,Nat.le_refl _,?_,?_⟩
 ·intro y hy;obtain⟨x,hx,rfl⟩:=hm y hy;exact g.bod x hx
 ·intro i hi h;exact g.free i hi fun x hx=>h x.synced (hb x hx)
 ·intro y hy hs;obtain⟨x,hx,rfl⟩:=hm y hy;exact g.look x hx (by unfold Sq.synced at hs;simpa using hs)
 ·intro y hy m hs;obtain⟨x,hx,rfl⟩:=hm y hy;obtain⟨m',h1,h2⟩:∃m',x.sure=some m'∧x.bytes.length=m:=by
   unfold Sq.synced at hs;simpa using hs
  have o:=g.op x hx m' h1;subst h2;exact⟨o.lay,fun j hj=>TornS.lay o.lay hj,Nat.le_refl _,o.fit⟩
 ·intro i;rw [show l.sync.live=l.live from rfl,g.live];constructor
  ·rintro⟨x,hx,e⟩;exact⟨x.synced,hb x hx,e⟩
  ·rintro⟨y,hy,e⟩;obtain⟨x,hx,rfl⟩:=hm y hy;exact⟨x,hx,e⟩
 ·intro s hs;obtain⟨x,hx,e⟩:=g.sg s hs;exact⟨x.synced,hb x hx,e⟩
 ·rcases g.str with h|⟨x,hx,h1,h2,h3,h4,h5,h6⟩
  ·exact .inl h
  ·refine .inr ⟨x.synced,hb x hx,?_,h2,h3,fun y hy=> ?_,h5,h6⟩
   ·unfold Sq.synced;simpa using h1
   ·obtain⟨z,hz,rfl⟩:=hm y hy;exact h4 z hz
 ·intro y hy q hc hq;obtain⟨x,hx,rfl⟩:=hm y hy;cases hs:x.sure with
  |none=>left;unfold Sq.synced;simp [hs]
  |some m=>
   refine .inr ⟨x.bytes.length,by unfold Sq.synced;simp [hs],?_⟩;show(z1N x.base titleB++z3M x.base (x.bs.take (q+1-x.base))).length≤(z1N x.base titleB++z3M x.base x.bs).length;have:=zA1 x.base x.bs (q+1-x.base);rw [List.length_append,List.length_append];omega
 ·intro q h1 h2;obtain⟨x,hx,hc⟩:=g.cov q h1 h2;exact⟨x.synced,hb x hx,hc⟩
theorem z8i(D:Dsk)(p:Int):∀ (n:Nat),(∀y,(∃j,j<n∧y=p+(j:Int))→(z2f D p n).view y=none)∧(∀y,(∀j,j<n→y≠p+(j:Int))→(z2f D p n).view y=D.view y)∧(z2f D p n).size=D.size∧(z2f D p n).limit=D.limit
 |0=>⟨fun y ⟨j,hj,_⟩=>by omega,fun y _=>rfl,rfl,rfl⟩
 |n+1=>by
  obtain⟨h1,h2,h3,h4⟩:=z8i D p n;have hf:∀ (D:Dsk) (x y:Int),(D.free x).view y=if y=x then none else D.view y:=fun D x y=>by
   unfold Dsk.free
   split
   ·rfl
   ·rename_i h
    split
    ·rename_i e;rw [e];cases hv:D.view x with
     |none=>rfl
     |some b=>rw [hv]at h;exact absurd rfl h
    ·rfl
  have hs:∀ (D:Dsk) (x:Int),(D.free x).size=D.size∧(D.free x).limit=D.limit:=fun D x=>by
   unfold Dsk.free
   split<;>exact⟨rfl,rfl⟩
  rw [z2f];refine⟨fun y ⟨j,hj,e⟩=> ?_,fun y hy=> ?_,by rw [(hs _ _).1,h3],by rw [(hs _ _).2,h4]⟩
  ·rw [hf]
   split
   ·rfl
   ·rename_i hn;refine h1 y ⟨j,?_,e⟩;rcases Nat.lt_or_ge j n with h|h
    ·exact h
    ·exact absurd (by rw [e,show j=n by omega]) hn
  ·rw [hf,if_neg (hy n (by omega))];exact h2 y fun j hj=>hy j (by omega)
theorem z58(D:Dsk)(a:Int)(size:Nat)(live:List Sg):∀ (n:Nat),(∀i,i<n→z0v live i=false→∀j,j<size→(z0I D a size live n).view (z3F a size i+(j:Int))=none)∧
 (∀y,(∀i,i<n→z0v live i=false→∀j,j<size→y≠z3F a size i+(j:Int))→(z0I D a size live n).view y=D.view y)∧(z0I D a size live n).size=D.size∧(z0I D a size live n).limit=D.limit
 |0=>⟨fun i hi=>by omega,fun y _=>rfl,rfl,rfl⟩
 |n+1=>by
  obtain⟨h1,h2,h3,h4⟩:=z58 D a size live n;rw [z0I]
  split
  ·rename_i hu;refine⟨fun i hi h=>h1 i ?_ h,fun y hy=>h2 y fun i hi=>hy i (by omega),h3,h4⟩;rcases Nat.lt_or_ge i n with h9|h9
   ·exact h9
   ·rw [show i=n by omega,hu]at h;cases h
  ·rename_i hu;obtain⟨f1,f2,f3,f4⟩:=z8i (z0I D a size live n) (z3F a size n) size;show(∀i,i<n+1→z0v live i=false→∀j,j<size→(z2f (z0I D a size live n) (z3F a size n) size).view _=none)∧_;refine⟨fun i hi h j hj=> ?_,fun y hy=> ?_,by rw [show(z2f (z0I D a size live n) (a+(n:Int)*size) size).size=_ from f3,h3],by rw [show(z2f (z0I D a size live n) (a+(n:Int)*size) size).limit=_ from f4,h4]⟩
   ·by_cases e:i=n
    ·rw [e];exact f1 _ ⟨j,hj,rfl⟩
    ·rw [f2 _ fun j' hj'=>z7F e hj hj'];exact h1 i (by omega) h j hj
   ·rw [show(z2f (z0I D a size live n) (a+(n:Int)*size) size).view y=_ from f2 y fun j hj=>hy n (by omega) (by simpa using hu) j hj];exact h2 y fun i hi=>hy i (by omega)
def Fd.sq(y:Fd):Sq:=⟨y.at',y.base,y.recs.map (·.2),none⟩
theorem z46:∀ (ts:List (List UInt8)) (f:Nat),(z05 f ts).map (·.2)=ts
 | [],_=>rfl
 |t::ts,f=>by rw [z05,List.map_cons,z46]
theorem Segs.sq_fd{all:List Fd}{n:Nat}(S:Segs all n 1 R){y:Fd}(hy:y∈all):y.sq.fd=y:=by
 have h:=S.recs y hy;unfold z5r at h;obtain⟨i,b,rs⟩:=y;show(⟨i,b,z05 b (rs.map (·.2))⟩:Fd)=_;simp only at h ⊢
 congr 1
 conv=>lhs;rw [h,z46]
 exact h.symm
theorem Segs.sg{all:List Fd}{n:Nat}(S:Segs all n 1 R){y:Fd}(hy:y∈all):y.sg=y.sq.sg:=by
 have:=(S.base hy).2;show(⟨_,_,_⟩:Sg)=⟨_,_,(y.recs.map (·.2)).length⟩;rw [Nat.mod_eq_of_lt (by unfold U64;omega),List.length_map];rfl
theorem Lgr.opened{D:Dsk}{a:Int}{n size K:Nat}(hok:D.Ok)(hsz:size≤64)(hf:k<U64)(S:Segs (z3G D.view a size n) n 1 R)(U:Upto (z3G D.view a size n) 1 R k K)(hl:∀t∈R,t.length≤32768)
 (low:∀y,(D.view y).isSome=true→y<D.size) (lim:D.size≤D.limit) (fit:a+(n:Int)*size≤D.size):
 (∃SB,Lgr (z16 D a n size k).1 k (R.take K) SB)∧(z16 D a n size k).2=z5r 1 R (k+1) (K-k)∧(z16 D a n size k).1.last=K∧(z16 D a n size k).1.synced=K∧
   (∀y,(y<a∨a+(n:Int)*size≤y)→(z16 D a n size k).1.D.view y=D.view y)∧(z16 D a n size k).1.D.size=D.size∧(z16 D a n size k).1.D.limit=D.limit:=by
 obtain⟨r,hr⟩:∃r,z2Y (z3G D.view a size n) k (n+1) [] k [] (z1j k (z3G D.view a size n) none)=r:=⟨_,rfl⟩;have E:=zDO S U;rw [hr]at E;have hKR:=U.KR;have hkK:=U.kK;have hsm:=S.small;have ho:z16 D a n size k=(({D:=z0I D a size r.1 n,a:=a,n:=n,size:=size,live:=r.1,stream:= [],last:=max r.2.1 k,synced:=0}:Wl).sync,r.2.2):=by
  unfold z16;simp only [hr]
 rw [ho];obtain⟨f1,f2,f3,f4⟩:=z58 D a size r.1 n;have hlast:max r.2.1 k=K:=by rw [E.last];omega
 have hused:∀i,z0v r.1 i=true→∃y∈z3G D.view a size n,y.at'=i∧z0v r.1 y.at'=true:=fun i hi=>by
  obtain⟨s,hs,e⟩:=z1c.1 hi;obtain⟨y,hy,rfl⟩:=E.sub s hs;exact⟨y,hy,e,z1c.2 ⟨_,hs,rfl⟩⟩
 obtain⟨SB,hSB⟩:∃SB,SB=((z3G D.view a size n).filter fun y=>z0v r.1 y.at').map Fd.sq:=⟨_,rfl⟩;have hmem:∀x,x∈SB↔∃y∈z3G D.view a size n,z0v r.1 y.at'=true∧x=y.sq:=fun x=>by
  rw [hSB,List.mem_map];constructor
  ·rintro⟨y,hy,rfl⟩;have:=List.mem_filter.1 hy;exact⟨y,this.1,this.2,rfl⟩
  ·rintro⟨y,h1,h2,rfl⟩;exact⟨y,List.mem_filter.2 ⟨h1,h2⟩,rfl⟩
 have hfd:∀z,z∈SB.map Sq.fd→z∈z3G D.view a size n∧z0v r.1 z.at'=true:=fun z hz=>by
  obtain⟨x,hx,rfl⟩:=List.mem_map.1 hz;obtain⟨y,h1,h2,rfl⟩:=(hmem x).1 hx;rw [S.sq_fd h1];exact⟨h1,h2⟩
 have hRl:(R.take K).length=K:=by rw [List.length_take];omega
 have hsame:∀y,(∀i,i<n→z0v r.1 i=false→∀j,j<size→y≠z3F a size i+(j:Int))→(z0I D a size r.1 n).view y=D.view y:=f2;have hlow:∀y,((z0I D a size r.1 n).view y).isSome=true→(D.view y).isSome=true:=fun y hy=>by
  by_cases h:∀i,i<n→z0v r.1 i=false→∀j,j<size→y≠z3F a size i+(j:Int)
  ·rw [f2 y h]at hy;exact hy
  ·exfalso;refine h fun i hi hu j hj e=> ?_
   rw [e,f1 i hi hu j hj]at hy;cases hy
 refine⟨⟨SB,⟨⟨Nat.le_refl _,by rw [hRl];omega,fun y hy=>S.ge y (hfd y hy).1,fun y hy=> ?_,fun y hy=> ?_,fun y hy z hz=>S.disj y (hfd y hy).1 z (hfd z hz).1,fun y hy z hz=>S.bnd y (hfd y hy).1 z (hfd z hz).1,fun y hy z hz=>S.at' y (hfd y hy).1 z (hfd z hz).1,fun y hy=>S.lt y (hfd y hy).1⟩,
  ?_,fun t ht=>hl t (List.mem_of_mem_take ht),?_,?_,fun _ _=>rfl,?_,?_,fun q hq=>(by cases hq),by rw [hRl];exact hlast,?_,?_,.inl rfl,?_,by show(z0I D a size r.1 n).size≤(z0I D a size r.1 n).limit;rw [f3,f4];exact lim,by show a+(n:Int)*size≤(z0I D a size r.1 n).size;rw [f3];exact fit,Nat.le_refl _,?_,?_⟩⟩,E.out,hlast,hlast,fun y hy=>f2 y fun i hi _ j hj=>zBc hi hy j hj,f3,f4⟩
 ·have:=E.used y (hfd y hy).1 (hfd y hy).2;rw [hRl];omega
 ·have h1:=E.used y (hfd y hy).1 (hfd y hy).2;have h2:=S.ge y (hfd y hy).1;have h3:=S.recs y (hfd y hy).1;unfold z5r at h3 ⊢;rw [List.drop_take,List.take_take,Nat.min_eq_left (by omega)];exact h3
 ·rw [hSB,List.map_map];have:((fun x:Sq=>x.at')∘Fd.sq)=fun y:Fd=>y.at':=rfl
  rw [this];exact(zEs _ _ _ n).sublist (List.Sublist.map _ List.filter_sublist)
 ·intro x hx t ht;obtain⟨y,h1,h2,rfl⟩:=(hmem x).1 hx;have h3:=S.recs y h1;unfold z5r at h3;have h4:y.sq.bs=(R.drop (y.base-1)).take y.recs.length:=by
   show y.recs.map (·.2)=_
   conv=>lhs;rw [h3,z46]
  rw [h4]at ht;exact hl t (List.mem_of_mem_drop (List.mem_of_mem_take ht))
 ·intro i hi h j hj;refine f1 i hi ?_ j hj;cases hu:z0v r.1 i with
  |false=>rfl
  |true=>
   obtain⟨y,hy,e,h2⟩:=hused i hu;exact absurd e (h y.sq ((hmem _).2 ⟨y,hy,h2,rfl⟩))
 ·intro x hx hs;obtain⟨y,h1,h2,rfl⟩:=(hmem x).1 hx;have h3:=(z1r h1).2;have h4:(⟨y.at',y.base,z05 y.base (y.recs.map (·.2))⟩:Fd)=y:=S.sq_fd h1;have h5:z05 y.base (y.recs.map (·.2))=y.recs:=congrArg Fd.recs h4;show z1Q (z0I D a size r.1 n).view a size y.at'=some (y.base,z05 y.base (y.recs.map (·.2)));rw [h5,←h3];unfold z1Q;rw [show a+(y.at':Int)*size=z3F a size y.at' from rfl,z23 size fun j hj=>f2 _ fun i hi hu j' hj'=>z7F (fun e=> ?_) hj hj'];rw [e,hu]at h2;cases h2
 ·intro x hx m hm;obtain⟨y,h1,h2,rfl⟩:=(hmem x).1 hx;cases hm
 ·intro i;show z0v r.1 i=true↔_;constructor
  ·intro h;obtain⟨y,hy,e,h2⟩:=hused i h;exact⟨y.sq,(hmem _).2 ⟨y,hy,h2,rfl⟩,e⟩
  ·rintro⟨x,hx,rfl⟩;obtain⟨y,h1,h2,rfl⟩:=(hmem x).1 hx;exact h2
 ·intro s hs;obtain⟨y,hy,rfl⟩:=E.sub s hs;exact⟨y.sq,(hmem _).2 ⟨y,hy,z1c.2 ⟨_,hs,rfl⟩,rfl⟩,S.sg hy⟩
 ·intro y hy;show y<(z0I D a size r.1 n).size;rw [f3];exact low y (hlow y hy)
 ·intro x hx q _ _;obtain⟨y,h1,h2,rfl⟩:=(hmem x).1 hx;exact .inl rfl
 ·intro q h1 h2;rw [hRl]at h2;obtain⟨y,hy,hs,hc⟩:=E.cov q h1 h2;exact⟨y.sq,(hmem _).2 ⟨y,hy,z1c.2 ⟨_,hs,rfl⟩,rfl⟩,by rw [S.sq_fd hy];exact hc⟩
end
section
open Go Go.RowKit
theorem zGV(S:Nat→Prop)(v0:Value)(l:List Chg)(w:World)(hr:Ch S w v0 l)(hok:zGQ l):
 Calls Tryz.prog 56 #[v0] w fun e w'=>e= .returned (.string (st (z0V l)))∧Below w.heap.size w w':=by
 have HR:=zz hr.lt;obtain⟨A,c,rfl,hlc,hcm,hA0,hA⟩:=hr.lt.at;have HA:=zz hA;have HX:=zz hok.2;have hl11:=hok.1;have HLEN:=zz (z4Z hok.2);clear hA hr hok hA0;go_enter Tryz.func56,Tryz.ntmps56
 go_wp2_with fail
 refine(z6x w).mono ?_;rintro e w1 ⟨rfl,hw1,hb1,hs1⟩;obtain⟨G,hG⟩:∃G,w.heap.size=G:=⟨_,rfl⟩;have hwG:Hid (Wr w1 G G []):=by rw [Hid,←hG];exact hw1
 have HG:=zz hG;have hGlt:G<w1.heap.size:=by omega
 have HB1:Hid (Below w.heap.size w w1):=hb1;have hwu:IntKind.u64.wrap (l.length:Int)=(l.length:Int):=z1e (by omega) (by unfold U64;omega);have hslx:Sl (fun b=>b≠G∧b<(w1.alloc (.cells #[.int .u64 (l.length:Int)] 60)).heap.size) (w1.alloc (.cells #[.int .u64 (l.length:Int)] 60)) 1 (.slice (some ⟨w1.heap.size,0,none⟩) 1 1) [l.length].length (zJP [l.length]):=Sl.new1 w1 _ _ rfl ⟨by omega,by simp⟩;have HSLX:=zz hslx;rw [hG];clear hw1 hb1 hslx hG hs1;go_wp2_with fail
 refine(z6P G G [] [l.length] _ _ (hwG.out.alloc _) (by simp;omega) (Nat.le_refl _) (by intro y hy;simp at hy;subst hy;unfold U64;omega) (by simp) HSLX.out).mono ?_;rintro e w2 ⟨rfl,hw2,hg2⟩;simp only [List.flatMap_cons,List.flatMap_nil,List.append_nil,List.nil_append]at hw2;have hz2:=hg2.size;have HB2:Hid (Below w.heap.size w w2):=(HB1.out.alloc HB1.out.size _).trans (z0M hg2 (by have:=HG.out;omega) (by have:=HB1.out.size;simp;omega));have hG2:G<w2.heap.size:=by simp at hz2;omega
 have R0:Hid (Wr w2 G G (z0D l.length++(l.take 0).flatMap z7u)∧Below w.heap.size w w2∧G<w2.heap.size):=⟨by simpa using hw2,HB2.out,hG2⟩;clear hw2 hg2 HSLX hwG HB1 HB2 hz2;have hv10:(z0D l.length).length≤10:=z0G (by unfold U64;omega);go_wp2_with fail
 go_loopw [17] (fun iv wr=>∃i:Nat,iv= .int .i64 (i:Int)∧i≤l.length∧Hid (Wr wr G G (z0D l.length++(l.take i).flatMap z7u)∧Below w.heap.size w wr∧G<wr.heap.size)) (fun iv _=>l.length-(intOf iv).toNat)
 case atStart=>exact⟨0,rfl,by omega,R0⟩
 case round=>
  obtain⟨i,rfl,hi,RR⟩:=hrel;clear R0;have hbl:=RR.out.2.1;have hGr:=RR.out.2.2;by_cases hil:i<l.length
  ·obtain⟨b,o,rfl,hbs,hc⟩:=HA.out (by omega);have c0:wr.cell? ⟨b,o+i*3,none⟩=some (.string (st l[i].k)):=(hbl.cell (p:=⟨b,o+i*3,none⟩) hbs).trans (hc i hil).1;have c1:wr.cell? ⟨b,o+i*3+1,none⟩=some (.string (st l[i].v)):=(hbl.cell (p:=⟨b,o+i*3+1,none⟩) hbs).trans (hc i hil).2.1;have c2:wr.cell? ⟨b,o+i*3+2,none⟩=some (.bool l[i].gone):=(hbl.cell (p:=⟨b,o+i*3+2,none⟩) hbs).trans (hc i hil).2.2;have hx:=HX.out _ (List.getElem_mem hil);have HS:Hid ((l.take (i+1)).flatMap z7u=(l.take i).flatMap z7u++z7u l[i]):=by
    rw [Hid,List.take_succ_eq_append_getElem hil,List.flatMap_append];simp
   have HLP:Hid (((l.take i).flatMap z7u).length≤11000):=by
    have:=z4Z (l:=l.take i) fun x hx=>HX.out x (List.mem_of_mem_take hx)
    rw [List.length_take]at this;have h2:min i l.length≤11:=by omega
    have h3:=Nat.mul_le_mul_left 1000 h2;rw [Hid];omega
   obtain⟨x,hx0⟩:∃x,l[i]=x:=⟨_,rfl⟩;rw [hx0]at c0 c1 c2 hx HS;clear hx0 hc;obtain⟨k,v,gn⟩:=x;simp only at c0 c1 c2 hx;have HKL:=zz hx;have hsz:=hbl.size;have q5:=(Below.refl wr.heap.size wr).alloc (Nat.le_refl _) (.cells #[.string (st k),.string (st v),.bool gn] 116);have q6:=q5.alloc q5.size (.cells #[.string (st k)] 9);have HW6:=zz (RR.out.1.later q6);have B6:=zz ((Blk.new wr 116 #[.string (st k),.string (st v),.bool gn]).alloc (.cells #[.string (st k)] 9));have HSL6:Hid (Sl (fun b=>b≠G∧b<((wr.alloc (.cells #[.string (st k),.string (st v),.bool gn] 116)).alloc (.cells #[.string (st k)] 9)).heap.size) ((wr.alloc (.cells #[.string (st k),.string (st v),.bool gn] 116)).alloc (.cells #[.string (st k)] 9)) 1 (.slice (some ⟨wr.heap.size+1,0,none⟩) 1 1) [k].length (zJN [k])):=Sl.new1 _ _ _ (by simp) ⟨by omega,by simp⟩;have HB6:=zz (hbl.trans (q6.mono hbl.size));have hz6:((wr.alloc (.cells #[.string (st k),.string (st v),.bool gn] 116)).alloc (.cells #[.string (st k)] 9)).heap.size=wr.heap.size+1+1:=by simp
   clear q5 q6 hbl RR hx;go_wp2_with fail
   generalize (wr.alloc (.cells #[.string (st k),.string (st v),.bool gn] 116)).alloc (.cells #[.string (st k)] 9)=W6 at*;refine(z5M G G _ [k] _ _ HW6.out (by omega) (Nat.le_refl _) (by intro y hy;simp at hy;subst hy;have:=HKL.out.1;omega) (by have:=HLP.out;simp only [List.length_append,List.length_cons,List.length_nil];omega) HSL6.out).mono ?_;rintro e w7 ⟨rfl,hw7,hg7⟩;simp only [List.flatMap_cons,List.flatMap_nil,List.append_nil]at hw7;have hz7:=hg7.size;have B7:=zz (B6.out.grown hg7 (by simp;omega));have HB7:=zz (HB6.out.trans (z0M hg7 (by have:=HG.out;omega) HB6.out.size));have x2:w7.cell? ⟨wr.heap.size,2,none⟩=some (.bool gn):=B7.out.cell 2;have HW7:=zz hw7;have hkl:=HKL.out.1;have hlk:=z2T k (by omega);have hvk:(z0D k.length).length≤10:=z0G (by unfold U64;omega);have hlen7:(z0D l.length++(l.take i).flatMap z7u++z11 k).length≤1000000:=by
    have:=HLP.out;simp only [List.length_append];omega
   clear hw7 hg7 HW6 HSL6 B6 HB6 c0 c1 c2;go_wp2_with fail
   refine(zAG G G _ gn w7 HW7.out (by omega) (Nat.le_refl _) (by omega)).mono ?_;rintro e w8 ⟨rfl,hw8,hg8⟩;have hz8:=hg8.size;have B8:=zz (B7.out.grown hg8 (by simp;omega));have HB8:=zz (HB7.out.trans (z0M hg8 (by have:=HG.out;omega) HB7.out.size));have y1:w8.cell? ⟨wr.heap.size,1,none⟩=some (.string (st v)):=B8.out.cell 1;have y2:w8.cell? ⟨wr.heap.size,2,none⟩=some (.bool gn):=B8.out.cell 2;have HW8:=zz hw8;have hfl:(z3s gn).length=1:=by cases gn<;>rfl
   have hlen8:(z0D l.length++(l.take i).flatMap z7u++z11 k++z3s gn).length≤1000001:=by rw [List.length_append];omega
   clear hw8 hg8 HW7 B7 HB7 x2;cases gn with
   |true=>
    have HE:Hid (z7u ⟨k,v,true⟩=z11 k++z3s true):=by rw [Hid];unfold z7u;simp
    have RF:Hid (Wr w8 G G (z0D l.length++(l.take (i+1)).flatMap z7u)∧Below w.heap.size w w8∧G<w8.heap.size):=by
     refine⟨?_,HB8.out,by omega⟩;rw [HS.out,HE.out];simp only [←List.append_assoc];exact HW8.out
    clear HW8 HB8 hlen7 hlen8 HS HE;go_wp2_with fail
    go_roundw
    case rel=>exact⟨i+1,by go_num,by omega,RF⟩
    case measure=>simp [intOf];omega
   |false=>
    have hvl:=HKL.out.2 rfl;have HE:Hid (z7u ⟨k,v,false⟩=z11 k++(z3s false++z11 v)):=by rw [Hid];unfold z7u;simp
    have HSL9:Hid (Sl (fun b=>b≠G∧b<(w8.alloc (.cells #[.string (st v)] 9)).heap.size) (w8.alloc (.cells #[.string (st v)] 9)) 1 (.slice (some ⟨w8.heap.size,0,none⟩) 1 1) [v].length (zJN [v])):=Sl.new1 _ _ _ rfl ⟨by omega,by simp⟩;have HW9:=zz (HW8.out.alloc (.cells #[.string (st v)] 9));have HB9:=zz (HB8.out.alloc HB8.out.size (.cells #[.string (st v)] 9));have hz9:(w8.alloc (.cells #[.string (st v)] 9)).heap.size=w8.heap.size+1:=by simp
    clear HW8 HB8;go_wp2_with fail
    generalize w8.alloc (.cells #[.string (st v)] 9)=W9 at*;refine(z5M G G _ [v] _ _ HW9.out (by omega) (Nat.le_refl _) (by intro y hy;simp at hy;subst hy;omega) (by simp only [List.length_cons,List.length_nil];omega) HSL9.out).mono ?_;rintro e wa ⟨rfl,hwa,hga⟩;simp only [List.flatMap_cons,List.flatMap_nil,List.append_nil]at hwa;have hza:=hga.size;have RF:Hid (Wr wa G G (z0D l.length++(l.take (i+1)).flatMap z7u)∧Below w.heap.size w wa∧G<wa.heap.size):=by
     refine⟨?_,HB9.out.trans (z0M hga (by have:=HG.out;omega) HB9.out.size),by omega⟩;rw [HS.out,HE.out];simp only [←List.append_assoc];exact hwa
    clear HW9 HB9 hwa hga hlen7 hlen8 HS HE HSL9;go_wp2_with fail
    go_roundw
    case rel=>exact⟨i+1,by go_num,by omega,RF⟩
    case measure=>simp [intOf];omega
  ·obtain rfl:i=l.length:=by omega
   have hw:=RR.out.1;rw [List.take_length]at hw;have HW:Hid (Wr wr G G (z0V l)):=hw;have hlen:(z0V l).length≤1000000:=by
    unfold z0V;rw [List.length_append];have:=HLEN.out;have h3:=Nat.mul_le_mul_left 1000 hl11;omega
   clear hw RR;go_wp2_with fail
   refine(z5W G G (z0V l) wr HW.out (by omega)).mono ?_;rintro e w5 ⟨A5,k5,c5,rfl,hown5,hbl5⟩;have HB5:=zz (hbl.trans (hbl5.mono hbl.size));have hbs5:=hown5.bs;obtain⟨body,hbody⟩:∃body,z0V l=body:=⟨_,rfl⟩;have HBD:=zz hbody;rw [hbody]at hbs5;clear hbody hlen HW HLEN;clear hown5 hbl5 hbl;go_wp2_with (refine z2o _ rfl (.tmp 44) rfl tB tU tS hbs5 rfl ?_)
   go_wp2_with fail
   go_ret
   exact⟨by rw [HBD.out];rfl,HB5.out⟩
def chN(x:Chg):Nat:=if x.gone then x.k.length else x.k.length+x.v.length
def z2w(x:Chg):Bool:=decide (240<x.k.length)||decide (480<chN x)
def z1L(l:List Chg):Nat:=(l.filter fun x=> !x.gone).length
def z3W(P:Pgr)(l:List Chg):Nat:=if 11<l.length then 151 else if l.any z2w then 100 else if 90<P.pages.length+(8+2*z1L l)then 141 else 0
theorem zHa(l:List Chg):z1L l≤l.length:=List.length_filter_le _ _
theorem zAX(a b:List Chg):z1L (a++b)=z1L a+z1L b:=by simp [z1L]
theorem z2p{P:Pgr}{l:List Chg}(h:z3W P l=0):l.length≤11∧(∀x∈l,x.k.length≤240∧chN x≤480)∧P.pages.length+(8+2*z1L l)≤90:=by
 unfold z3W at h
 split at h
 ·cases h
 ·split at h
  ·cases h
  ·split at h
   ·cases h
   ·rename_i h1 h2 h3;refine⟨by omega,fun x hx=> ?_,by omega⟩;have:=List.any_eq_false.1 (by simpa using h2:l.any z2w=false) x hx;unfold z2w at this;simp only [Bool.or_eq_true,decide_eq_true_eq,not_or]at this;omega
theorem zAZ{P:Pgr}{l:List Chg}(h:z3W P l=0):zGQ l:=by
 have h1:=z2p h;refine⟨h1.1,fun x hx=> ?_⟩;have h2:=h1.2.1 x hx;refine⟨by omega,fun hg=> ?_⟩;have h3:=h2.2;unfold chN at h3;rw [hg]at h3;simp only [Bool.false_eq_true,if_false]at h3;omega
theorem zCb(gs:Nat)(Z:Pz)(P:Pgr)(S:Nat→Prop)(v0:Value)(l:List Chg)(w:World)(hp:Pg w Z P){v1 v2:Value}(hs:Blk w gs 66 #[v1,.pointer (some ⟨Z.g,0,none⟩),v2])(hr:Ch S w v0 l)(hl:l.length≤1000000)(hx:∀x∈l,x.k.length≤65536∧x.v.length≤65536):
 Calls Tryz.prog 54 #[.pointer (some ⟨gs,0,none⟩),v0] w fun e w'=>e= .returned (.int .i64 (z3W P l:Int))∧Below w.heap.size w w':=by
 have HP:=zz hp;have HS:=zz hs;obtain⟨A,c,rfl,hlc,hcm,hA0,hA⟩:=hr.lt.at;have HA:=zz hA;have HX:=zz hx;clear hA hr hA0 hx hp hs;by_cases h11:11<l.length
 ·have HE:Hid (z3W P l=151):=by unfold z3W;rw [Hid,if_pos h11]
  go_enter Tryz.func54,Tryz.ntmps54
  go_wp2_with fail
  go_ret
  rw [HE.out];exact⟨rfl,Below.refl _ _⟩
 ·have HM:Hid (z3W P l=if l.any z2w then 100 else if 90<P.pages.length+(8+2*z1L l)then 141 else 0):=by unfold z3W;rw [Hid,if_neg h11]
  go_enter Tryz.func54,Tryz.ntmps54
  go_wp2_with fail
  go_loopw [5,14] (fun nv iv wr=>∃ (i m:Nat),iv= .int .i64 (i:Int)∧nv= .int .i64 (m:Int)∧i≤l.length∧m≤100∧Hid (m=8+2*z1L (l.take i)∧(l.take i).any z2w=false∧Below w.heap.size w wr)) (fun _ iv _=>l.length-(intOf iv).toNat)
  case atStart=>exact⟨0,8,rfl,rfl,by omega,by omega,by simp [z1L],by simp,Below.refl _ _⟩
  case round=>
   obtain⟨i,m,rfl,rfl,hi,hm,RR⟩:=hrel;have hbl:=RR.out.2.2;by_cases hil:i<l.length
   ·obtain⟨b,o,rfl,hbs,hc⟩:=HA.out (by omega);have c0:wr.cell? ⟨b,o+i*3,none⟩=some (.string (st l[i].k)):=(hbl.cell (p:=⟨b,o+i*3,none⟩) hbs).trans (hc i hil).1;have c1:wr.cell? ⟨b,o+i*3+1,none⟩=some (.string (st l[i].v)):=(hbl.cell (p:=⟨b,o+i*3+1,none⟩) hbs).trans (hc i hil).2.1;have c2:wr.cell? ⟨b,o+i*3+2,none⟩=some (.bool l[i].gone):=(hbl.cell (p:=⟨b,o+i*3+2,none⟩) hbs).trans (hc i hil).2.2;have hx:=HX.out _ (List.getElem_mem hil);have htk:l.take (i+1)=l.take i++ [l[i]]:=List.take_succ_eq_append_getElem hil;have hmem:l[i]∈l:=List.getElem_mem hil;obtain⟨x,hx0⟩:∃x,l[i]=x:=⟨_,rfl⟩;rw [hx0]at c0 c1 c2 hx htk hmem;have HTK:=zz htk;have HMEM:=zz hmem;clear hx0 hc htk hmem;obtain⟨k,v,gn⟩:=x;simp only at c0 c1 c2 hx;have hB5:=zz (Blk.new wr 116 #[.string (st k),.string (st v),.bool gn]);have HQ5:=zz (hbl.alloc hbl.size (.cells #[.string (st k),.string (st v),.bool gn] 116));have hma:m=8+2*z1L (l.take i):=RR.out.1;have hpl:=zHa (l.take i);rw [List.length_take]at hpl;have HRM:=zz hma;have HRA:=zz RR.out.2.1;have hm2:m≤30:=by omega
    have ew:IntKind.i64.wrap ((k.length:Int)+(v.length:Int))=(k.length:Int)+(v.length:Int):=z1B (by omega) (by omega);have ew2:IntKind.i64.wrap ((m:Int)+2)=((m+2:Nat):Int):=by rw [z1B (by omega) (by omega)];omega
    clear hma hpl hbl RR hm;by_cases h240:240<k.length
    ·have z1:decide ((240:Int)<(k.length:Int))=true:=decide_eq_true (by omega);cases gn with
     |true=>
      have BAD:z2w ⟨k,v,true⟩=true:=by simp [z2w,h240]
      have HE:Hid (z3W P l=100):=by
       rw [Hid,HM.out,if_pos (List.any_eq_true.2 ⟨_,HMEM.out,BAD⟩)]
      clear HM;go_wp2_with fail
      go_ret
      rw [HE.out];exact⟨rfl,HQ5.out⟩
     |false=>
      have BAD:z2w ⟨k,v,false⟩=true:=by simp [z2w,h240]
      have HE:Hid (z3W P l=100):=by
       rw [Hid,HM.out,if_pos (List.any_eq_true.2 ⟨_,HMEM.out,BAD⟩)]
      clear HM;go_wp2_with fail
      go_ret
      rw [HE.out];exact⟨rfl,HQ5.out⟩
    ·have z1:decide ((240:Int)<(k.length:Int))=false:=decide_eq_false (by omega);cases gn with
     |true=>
      by_cases h480:480<k.length
      ·omega
      ·have z2:decide ((480:Int)<(k.length:Int))=false:=decide_eq_false (by omega);have RF:Hid (m=8+2*z1L (l.take (i+1))∧(l.take (i+1)).any z2w=false∧Below w.heap.size w (wr.alloc (.cells #[.string (st k),.string (st v),.bool true] 116))):=by
        refine⟨?_,?_,HQ5.out⟩
        ·have hrm:=HRM.out;rw [HTK.out,zAX];simp [z1L]at hrm ⊢
         try omega
        ·rw [HTK.out,List.any_append,HRA.out];simp [z2w,chN,decide_eq_false h240,decide_eq_false h480]
       clear HM HRM HRA HTK;go_wp2_with fail
       go_roundw
       case rel=>exact⟨i+1,m,by go_num,rfl,by omega,by omega,RF⟩
       case measure=>simp [intOf];omega
     |false=>
      by_cases h480:480<k.length+v.length
      ·have z2:decide ((480:Int)<(k.length:Int)+(v.length:Int))=true:=decide_eq_true (by omega);have BAD:z2w ⟨k,v,false⟩=true:=by simp [z2w,chN,h480]
       have HE:Hid (z3W P l=100):=by
        rw [Hid,HM.out,if_pos (List.any_eq_true.2 ⟨_,HMEM.out,BAD⟩)]
       clear HM;go_wp2_with fail
       go_ret
       rw [HE.out];exact⟨rfl,HQ5.out⟩
      ·have z2:decide ((480:Int)<(k.length:Int)+(v.length:Int))=false:=decide_eq_false (by omega);obtain⟨m2,hm22⟩:∃m2,m+2=m2:=⟨_,rfl⟩;rw [hm22]at ew2;have RF:Hid (m2=8+2*z1L (l.take (i+1))∧(l.take (i+1)).any z2w=false∧Below w.heap.size w (wr.alloc (.cells #[.string (st k),.string (st v),.bool false] 116))):=by
        refine⟨?_,?_,HQ5.out⟩
        ·have hrm:=HRM.out;rw [HTK.out,zAX];simp [z1L]at hrm ⊢
         try omega
        ·rw [HTK.out,List.any_append,HRA.out];simp [z2w,chN,decide_eq_false h240,decide_eq_false h480]
       clear HM HRM HRA HTK;go_wp2_with fail
       go_roundw
       case rel=>exact⟨i+1,m2,by go_num,rfl,by omega,by omega,RF⟩
       case measure=>simp [intOf];omega
   ·obtain rfl:i=l.length:=by omega
    have hm1:=RR.out.1;have ha1:=RR.out.2.1;rw [List.take_length]at hm1 ha1;have hl90:P.pages.length≤90:=by unfold Pgr.pages;exact Nat.le_trans (List.length_filter_le _ _) (by simp)
    have HP2:=zz (HP.out.later hbl);have HM2:Hid (z3W P l=if 90<P.pages.length+m then 141 else 0):=by
     rw [Hid,HM.out,ha1,←hm1];rfl
    have HB:=zz hbl;have hs2:Blk wr gs 66 #[v1,.pointer (some ⟨Z.g,0,none⟩),v2]:=HS.out.later hbl;have cs1:wr.cell? ⟨gs,1,none⟩=some (.pointer (some ⟨Z.g,0,none⟩)):=hs2.cell 1;clear hs2;clear HM RR hm1 ha1 hbl HP HA HX;go_wp2_with fail
    refine(z3K Z P _ HP2.out).mono ?_;rintro e w6 ⟨v6,rfl,ho6,hb6⟩;obtain⟨A6,k6,c6,rfl⟩:=z0u ho6;obtain rfl:=z0Q ho6;have hk6:(il P.pages).length=P.pages.length:=z8p _;have HB6:=zz (HB.out.trans (hb6.mono HB.out.size));clear ho6 hb6;rw [hk6];have ew:IntKind.i64.wrap ((90:Int)-(P.pages.length:Int))=(90:Int)-(P.pages.length:Int):=z1B (by omega) (by omega);by_cases h90:90<P.pages.length+m
    ·have z3:decide ((90:Int)-(P.pages.length:Int)<(m:Int))=true:=decide_eq_true (by omega);have HE:Hid (z3W P l=141):=by rw [Hid,HM2.out,if_pos h90]
     clear HM2 HP2;go_wp2_with fail
     go_ret
     rw [HE.out];exact⟨rfl,HB6.out⟩
    ·have z3:decide ((90:Int)-(P.pages.length:Int)<(m:Int))=false:=decide_eq_false (by omega);have HE:Hid (z3W P l=0):=by rw [Hid,HM2.out,if_neg h90]
     clear HM2 HP2;go_wp2_with fail
     go_ret
     rw [HE.out];exact⟨rfl,HB6.out⟩
def undV(u:Und):Value:= .agg #[.int .i64 u.id,.int .i64 (u.depth:Int),.string (st u.from_),.string (st u.to_),.bool u.open_]
def FiPost(b:Bool)(w:World)(e:Ending)(w':World):Prop:=e= .returned (.bool b)∧Below w.heap.size w w'
def unC(u:Und):List Value:= [.int .i64 u.id,.int .i64 (u.depth:Int),.string (st u.from_),.string (st u.to_),.bool u.open_]
def zEC(l:List Und):List Value:=l.flatMap unC
theorem zHY(a b:List Und):zEC (a++b)=zEC a++zEC b:=by simp [zEC]
theorem zGu(u:Und):zEC [u]=unC u:=by simp [zEC]
theorem zHR(l:List Und):(zEC l).length=l.length*5:=by
 induction l with
 |nil=>rfl
 |cons x l ih=>
  have e:zEC (x::l)=unC x++zEC l:=by simp [zEC]
  rw [e,List.length_append,ih,List.length_cons];simp [unC];omega
def lfC(l:List ((Int×Pag)×Value)):List Value:=l.flatMap fun x=> [.bool x.1.2.1,.int .i64 (x.1.2.2.1:Int),x.2]
theorem zEf(a b:List ((Int×Pag)×Value)):lfC (a++b)=lfC a++lfC b:=by simp [lfC]
theorem zGN(l:List ((Int×Pag)×Value)):(lfC l).length=l.length*3:=by
 induction l with
 |nil=>rfl
 |cons x l ih=>
  have e:lfC (x::l)= [.bool x.1.2.1,.int .i64 (x.1.2.2.1:Int),x.2]++lfC l:=by simp [lfC]
  rw [e,List.length_append,ih,List.length_cons];simp;omega
def idC(l:List (Int×Pag)):List Value:=l.map fun x=> .int .i64 x.1
theorem elemIntT:Elem Tryz.prog 42 3 (.int .i64 0) 1 8:=Elem.mk' Tryz.underlying42 (by kernel_rfl) rfl (by omega)
theorem zIM:Elem Tryz.prog 22 36 (.agg #[.bool false,.int .i64 0,.slice none 0 0]) 3 40:=Elem.mk' Tryz.underlying22 (by kernel_rfl) rfl (by omega)
theorem z9F{w:World}{B B':Nat}{e e':TypeId}{size size' n n':Nat}{v v':Value}{xs xs':List Value}(h:w.ownsRow B e size v n xs)(h':w.ownsRow B' e' size' v' n' xs')(hne:e≠e'):∀g,v.ownBlock=some g→v'.ownBlock≠some g:=by
 intro g hg hg';rcases h.2 with⟨rfl,_⟩|⟨g1,cap,cur,rfl,_,hh,_⟩
 ·simp [Value.ownBlock]at hg
 ·rcases h'.2 with⟨rfl,_⟩|⟨g2,cap',cur',rfl,_,hh',_⟩
  ·simp [Value.ownBlock]at hg'
  ·simp [Value.ownBlock]at hg hg';subst hg;subst hg';rw [hh]at hh';simp at hh';exact hne hh'.2
theorem zBR{w w':World}{B b:Nat}{e:TypeId}{size n:Nat}{v:Value}{xs:List Value}(h:w.ownsRow B e size v n xs)(hk:z0H w b=some none)(hg:w.mapTurned w' b):w'.ownsRow B e size v n xs:=by
 refine h.kept hg.grown ?_;rcases h.2 with⟨rfl,_⟩|⟨g,cap,cur,rfl,_,hh,_⟩
 ·exact .inl rfl
 ·refine .inr fun e=> ?_
  simp [Value.ownBlock]at e;subst e;unfold z0H at hk;rw [hh]at hk;simp at hk
theorem zJ7{w:World}{B:Nat}{e:TypeId}{size n c:Nat}{A:Option Addr}{xs ys:List Value}(h:w.ownsRow B e size (.slice A (n+1) c) (n+1) (xs++ys))(hx:xs.length=n*size)(hy:ys.length=size):
 w.ownsRow B e size (.slice A n c) n xs∧∃g,A=some ⟨g,0,none⟩∧B≤g∧g<w.heap.size∧n+1≤c∧c≤maxLen∧∀j u,ys[j]? =some u→w.cell? ⟨g,n*size+j,none⟩=some u:=by
 have h0:=h;rcases h.2 with⟨_,h0⟩|⟨g,cap,cur,hv,hB,hh,hcap,hm,hsz,ht⟩
 ·omega
 ·injection hv with e1 _ e3
  subst e1 e3;refine⟨⟨hx,.inr ⟨g,c,cur,rfl,hB,hh,by omega,hm,hsz,?_⟩⟩,g,rfl,hB,(Array.getElem?_eq_some_iff.1 hh).1,hcap,hm,fun j u hu=> ?_⟩
  ·have h1:(cur.toList.take ((n+1)*size)).take (n*size)=(xs++ys).take (n*size):=by rw [ht]
   rw [List.take_take,Nat.min_eq_left (Nat.mul_le_mul_right _ (by omega)),←hx,List.take_left' rfl]at h1;rw [←hx];exact h1
  ·have:=h0.cells (g:=g) rfl (n*size+j) u (by rw [List.getElem?_append_right (by omega),hx,Nat.add_sub_cancel_left];exact hu);have e:((⟨g,0,none⟩:Addr).add (n*size+j))=⟨g,n*size+j,none⟩:=by rw [z0j];simp
   rw [e]at this;exact this
theorem z4S{w:World}{B n c g j:Nat}{e:TypeId}{size:Nat}{xs:List Value}{u:Value}(h:w.ownsRow B e size (.slice (some ⟨g,0,none⟩) n c) n xs)(hj:xs[j]? =some u):w.cell? ⟨g,j,none⟩=some u:=by
 have:=h.cells (g:=g) rfl j u hj;have e:((⟨g,0,none⟩:Addr).add j)=⟨g,j,none⟩:=by rw [z0j];simp
 rw [e]at this;exact this
theorem zI6{w:World}{B n:Nat}{e:TypeId}{size:Nat}{v:Value}{xs:List Value}(h:w.ownsRow B e size v n xs)(h0:0<n):∃g c,v= .slice (some ⟨g,0,none⟩) n c∧∀j u,xs[j]? =some u→w.cell? ⟨g,j,none⟩=some u:=by
 have h1:=h;rcases h.2 with⟨_,hn⟩|⟨g,cap,cur,rfl,_⟩
 ·omega
 ·exact⟨g,cap,rfl,fun j u hj=>z4S h1 hj⟩
theorem zIo(w:World)(B:Nat)(e:TypeId)(cs:List Value){g:Nat}(hg:g=w.heap.size)(hB:B≤w.heap.size):(w.alloc (.cells cs.toArray e)).ownsRow B e cs.length (.slice (some ⟨g,0,none⟩) 1 1) 1 cs:=by
 subst hg;exact⟨by simp,.inr ⟨w.heap.size,1,cs.toArray,rfl,hB,heap_alloc_new w _,Nat.le_refl _,by simp [maxLen],by simp,by simp⟩⟩
theorem zAV(w:World)(u0:Value)(t:TypeId):∀j u,([u0]:List Value)[j]? =some u→(w.alloc (.cells #[u0] t)).cell? ((⟨w.heap.size,0,none⟩:Addr).add j)=some u:=by
 intro j u hj;have e:((⟨w.heap.size,0,none⟩:Addr).add j)=⟨w.heap.size,j,none⟩:=by rw [z0j];simp
 rw [e,(Blk.new w t #[u0]).cell j,←hj];simp
theorem zAS{w:World}{o:Obj}{b:Addr}{xs:List Value}(h:∀j u,xs[j]? =some u→w.cell? (b.add j)=some u):∀b',some b=some b'→∀j u,xs[j]? =some u→(w.alloc o).cell? (b'.add j)=some u:=by
 intro b' hb j u hj;obtain rfl:=Option.some.inj hb;have h1:=h j u hj;have hl:=World.block_lt_of_cell? w _ h1;exact(World.cell?_of_block (Below.heap_alloc w o _ hl)).trans h1
theorem z3L{P:Program}(w:World){ops:Array Oper}{rest:List Oper}{o:Oper}{a:Act}{Q:Exit→Act→World→Prop}(hgd:o.guard=none)(x lo hi mx:Operand){t e:TypeId}{z:Value}{bytes:Nat}(E:Elem P t e z 1 bytes)
 (ho:o.op= .slice t x (some lo) (some hi) (some mx)) {g N c:Nat} {xs:List Value} (hx:a.eval x= .slice (some ⟨g,0,none⟩) N c) (hlo:a.eval lo= .int .i64 1) (hhi:a.eval hi= .int .i64 (N:Int)) (hmx:a.eval mx= .int .i64 (N:Int)) (h1:1≤N) (hc:N≤c)
 (hl:xs.length=N) (hr:∀j u,xs[j]? =some u→w.cell? ⟨g,j,none⟩=some u)
 (h:∀b:Addr,(∀j u,(xs.drop 1)[j]? =some u→w.cell? (b.add j)=some u)→wpList P ops Q rest (a.put o.dst (.slice (some b) (N-1) (N-1))) w):wpList P ops Q (o::rest) a w:=by
 refine wpList_plain hgd fun K hK=> ?_
 obtain⟨i,hi0,hz,hs,hby⟩:=E.info;have key:∀b:Addr,(b=if N=1 then⟨g,0,none⟩else⟨g,1,none⟩)→∀j u,(xs.drop 1)[j]? =some u→w.cell? (b.add j)=some u:=by
  intro b hb j u hj;rw [List.getElem?_drop]at hj;by_cases hN:N=1
  ·obtain⟨h2,_⟩:=List.getElem?_eq_some_iff.1 hj;omega
  ·rw [if_neg hN]at hb;subst hb;have e:((⟨g,1,none⟩:Addr).add j)=⟨g,1+j,none⟩:=by rw [z0j]
   rw [e];exact hr _ _ hj
 unfold Oper.wp;have hrun:(Instr.sliceAt t (.slice (some ⟨g,0,none⟩) N c) (some (.int .i64 1)) (some (.int .i64 (N:Int))) (some (.int .i64 (N:Int)))).run P w= .ok (.slice (some (if N=1 then⟨g,0,none⟩else⟨g,1,none⟩)) (N-1) (N-1)) w:=by
  by_cases hN:N=1
  ·subst hN;simp [Instr.sliceAt,Instr.slice,Instr.sliceBounds,Instr.sliceBound,run_underlying E.under,sizeOf,typeInfo,hi0,asIntOf,hs];intro h;omega
  ·simp [Instr.sliceAt,Instr.slice,Instr.sliceBounds,Instr.sliceBound,run_underlying E.under,sizeOf,typeInfo,hi0,asIntOf,hs,hN,hc,z0j];intro h;omega
 simp [execOp,ho,hx,hlo,hhi,hmx,hrun,Result.andThen];exact hK _ _ (h _ (key _ rfl))
structure CkSt(w wr:World)(bm:Nat)(tv lv iv:Value)(td:List Und)(s:ChT):Prop where
 todo:wr.ownsRow w.heap.size 147 5 tv td.length (zEC td.reverse)
 lv:∃us:List Value,us.length=s.leaves.length∧wr.ownsRow w.heap.size 36 3 lv s.leaves.length (lfC (s.leaves.zip us))∧∀u∈us,∃A k c,u= .slice A k c
 ids:wr.ownsRow w.heap.size 3 1 iv s.leaves.length (idC s.leaves)
 seen:∃f,MpV Tryz.prog 3 wr bm f s.seen.length∧∀a,InI a→(f a).isSome=s.seen.contains a
 below:Below w.heap.size w wr
section
variable {w wr w':World} {bm:Nat} {tv lv iv:Value} {td:List Und} {s:ChT}
theorem CkSt.later(h:CkSt w wr bm tv lv iv td s)(hb:Below wr.heap.size wr w'):CkSt w w' bm tv lv iv td s:=by
 obtain⟨us,h1,h2,h3⟩:=h.lv;obtain⟨f,h4,h5⟩:=h.seen;exact⟨z0n h.todo hb,⟨us,h1,z0n h2 hb,h3⟩,z0n h.ids hb,⟨f,h4.later hb,h5⟩,h.below.trans (hb.mono h.below.size)⟩
theorem CkSt.cut(h:CkSt w wr bm tv lv iv td s){tv':Value}{td':List Und}(ho:wr.ownsRow w.heap.size 147 5 tv' td'.length (zEC td'.reverse)):CkSt w wr bm tv' lv iv td' s:=⟨ho,h.lv,h.ids,h.seen,h.below⟩
theorem CkSt.mark(h:CkSt w wr bm tv lv iv td s){f:Int→Option Value}{n:Nat}{a:Int}(hm:MpV Tryz.prog 3 w' bm f n)(hg:wr.mapTurned w' bm)(hk:z0H wr bm=some none)(hbm:w.heap.size≤bm)(hn:n=s.seen.length+1)(hf:∀x,InI x→(f x).isSome=(a::s.seen).contains x):
 CkSt w w' bm tv lv iv td ⟨s.leaves,a::s.seen,s.depth⟩:=by
 obtain⟨us,h1,h2,h3⟩:=h.lv;refine⟨zBR h.todo hk hg,⟨us,h1,zBR h2 hk hg,h3⟩,zBR h.ids hk hg,⟨f,by subst hn;exact hm,hf⟩,?_⟩;exact h.below.grown hg.grown h.below.size (fun k hk=>by injection hk with hk;omega)
end
structure CkOk(pf:PF)(td:List Und)(s:ChT)(k:Nat)(F:Option ChT):Prop where
 run:z1x pf k td s=F
 fuel:s.seen.length+k=91
 nod:s.seen.Nodup
 pgs:∀a∈s.seen,0≤a∧a<90
 und:∀u∈td,InI u.id∧u.depth≤s.seen.length
 len:td.length≤1+1100*s.seen.length
 dep:s.depth≤91
 lvs:∀x∈s.leaves,InI x.1∧POk x.2
 lvn:s.leaves.length≤s.seen.length
theorem z9c{l:List Int}(hn:l.Nodup)(h:∀a∈l,0≤a∧a<90):l.length≤90:=by
 have:=z74 (l:=l) (l':=(List.range 90).map fun i:Nat=>(i:Int)) hn fun a ha=>by
  obtain⟨h0,h1⟩:=h a ha;rw [List.mem_map];exact⟨a.toNat,by rw [List.mem_range];omega,by omega⟩
 simpa using this
theorem CkOk.start(pf:PF):CkOk pf [zET] ⟨[],[],0⟩ 91 (z1x pf 91 [zET] ⟨[],[],0⟩):=
 ⟨rfl,rfl,List.nodup_nil,fun _ h=>(by cases h),fun u hu=>(by obtain rfl:=List.mem_singleton.1 hu;exact⟨by unfold InI zET;simp,by unfold zET;simp⟩),by simp,by simp,fun _ h=>(by cases h),by simp⟩
theorem CkOk.done{pf:PF}{s:ChT}{k:Nat}{F:Option ChT}(h:CkOk pf [] s k F):F=some s:=by
 rw [←h.run];cases k<;>rfl
theorem CkOk.step{pf:PF}{u:Und}{td:List Und}{s:ChT}{k:Nat}{F:Option ChT}(h:CkOk pf (u::td) s k F):
 ∃k',k=k'+1∧F=match pf u.id with
 |none=>none
 |some x=>
  if s.seen.contains u.id|| !z90 u x then none
  else if x.1 then
   if s.leaves≠ []∧s.depth≠u.depth then none
   else z1x pf k' td ⟨s.leaves++ [(u.id,x)],u.id::s.seen,u.depth⟩
  else z1x pf k' (zJ3 u x.2.2++td) ⟨s.leaves,u.id::s.seen,s.depth⟩:=by
 have h9:=z9c h.nod h.pgs;have hf:=h.fuel;obtain⟨k',rfl⟩:∃k',k=k'+1:=⟨k-1,by omega⟩;refine⟨k',rfl,?_⟩;rw [←h.run]
 conv=>lhs;rw [z1x]
 rfl
theorem CkOk.leaf{pf:PF}{u:Und}{td:List Und}{s:ChT}{k:Nat}{F:Option ChT}(h:CkOk pf (u::td) s (k+1) F){x:Pag}(hx:0≤u.id∧u.id<90∧POk x)(hs:s.seen.contains u.id=false)
 (hF:F=z1x pf k td ⟨s.leaves++ [(u.id,x)],u.id::s.seen,u.depth⟩):CkOk pf td ⟨s.leaves++ [(u.id,x)],u.id::s.seen,u.depth⟩ k F:=by
 have hu:=h.und u (List.mem_cons_self ..);have hns:u.id∉s.seen:=fun e=>by rw [List.contains_iff_mem.2 e]at hs;cases hs
 have h9:=z9c h.nod h.pgs;have hf:=h.fuel;refine⟨hF.symm,by simp only [List.length_cons];omega,List.nodup_cons.2 ⟨hns,h.nod⟩,fun a ha=> ?_,fun v hv=> ?_,?_,by simp only;omega,fun y hy=> ?_,?_⟩
 ·rcases List.mem_cons.1 ha with rfl|ha
  ·exact⟨hx.1,hx.2.1⟩
  ·exact h.pgs a ha
 ·have:=h.und v (List.mem_cons_of_mem _ hv);exact⟨this.1,by simp only [List.length_cons];omega⟩
 ·have:=h.len;simp only [List.length_cons]at this ⊢;omega
 ·rcases List.mem_append.1 hy with hy|hy
  ·exact h.lvs y hy
  ·obtain rfl:=List.mem_singleton.1 hy;exact⟨hu.1,hx.2.2⟩
 ·have:=h.lvn;simp only [List.length_append,List.length_cons,List.length_nil];omega
theorem zIg{l:List (Int×Pag)}{i:Nat}(h:i<l.length):((idC l).drop 1++([.int .i64 0]:List Value))[i]? =some (.int .i64 ((((l.map (·.1)).drop 1++ [0])[i]?).getD 0)):=by
 have e:((idC l).drop 1++([.int .i64 0]:List Value))=(((l.map fun x:Int×Pag=>x.1).drop 1++ [0]:List Int)).map (fun z:Int=>Value.int .i64 z):=by
  unfold idC;rw [List.map_append,List.map_drop,List.map_map];rfl
 rw [e,List.getElem?_map];have hl:i<(((l.map fun x:Int×Pag=>x.1).drop 1++ [0]:List Int)).length:=by simp;omega
 rw [List.getElem?_eq_getElem hl];rfl
def z8v(l:List (Int×Pag))(i:Nat):Prop:=∀x,l[i]? =some x→(x.2.2.1:Int)=(((l.map (·.1)).drop 1++ [0])[i]?).getD 0
theorem z4l:∀l:List (Int×Pag),z2V l=true↔∀i,i<l.length→z8v l i
 | []=>by simp [z2V]
 | [(j,x)]=>by
   simp only [z2V,decide_eq_true_eq];constructor
   ·intro h i hi y hy;obtain rfl:i=0:=by simp at hi;omega
    simp at hy;subst hy;simp [h]
   ·intro h;have:=h 0 (by simp) (j,x) (by simp);simp at this;omega
 |(j,x)::(k,y)::r=>by
  rw [z2V,Bool.and_eq_true,z4l ((k,y)::r),decide_eq_true_eq];constructor
  ·rintro⟨h1,h2⟩ i hi z hz;cases i with
   |zero=>
    simp at hz;subst hz;simpa using h1
   |succ i=>
    have:=h2 i (by simpa using hi) z (by simpa using hz);simpa using this
  ·intro h;refine⟨?_,fun i hi z hz=> ?_⟩
   ·have:=h 0 (by simp) (j,x) (by simp);simpa using this
   ·have:=h (i+1) (by simpa using hi) z (by simpa using hz);simpa using this
set_option linter.unusedSimpArgs false
section
variable {P:Program} {ops:Array Oper}
abbrev DP:=(Nat→Value)→VP
def yOf(env:List (Value×VP)):Nat→Value:=fun i=>((env[i]?).map (·.1)).getD undef
def z4g(Ds:List DP)(j:Nat):DP:=Ds.getD j fun _ _ _=>True
def zDI(Ds:List DP)(y:Nat→Value)(k:Nat):List (Value×VP):=(List.range k).map fun j=>(y j,z4g Ds j y)
theorem zCi(Ds:List DP)(y:Nat→Value)(k:Nat):(zDI Ds y k).length=k:=by simp [zDI]
theorem z97{Ds:List DP}{y:Nat→Value}{k j:Nat}{x:Value}{W:VP}(h:(zDI Ds y k)[j]? =some (x,W)):j<k∧x=y j∧W=z4g Ds j y:=by
 unfold zDI at h;rw [List.getElem?_map,Option.map_eq_some_iff]at h;obtain⟨i,hi,h2⟩:=h;obtain⟨h3,h4⟩:=List.getElem?_eq_some_iff.1 hi;rw [List.getElem_range]at h4;subst h4;simp only [List.length_range]at h3;injection h2 with h5 h6
 exact⟨h3,h5.symm,h6.symm⟩
theorem zHc{Ds:List DP}{y:Nat→Value}{k i:Nat}(hi:i<k):yOf (zDI Ds y k) i=y i:=by
 unfold yOf zDI;rw [List.getElem?_map,List.getElem?_range hi];rfl
def z27(P:Program)(ops:Array Oper)(R:RegFr)(Q:Act→World→Prop):List Oper→List DP→List (Value×VP)→Act→Prop
 |o::rest,D::Ds,env,a=>
  (if Region.wanted o (yielded ops a.tmps)then ∀w,R.C env.length w→(∀e∈o.after,Region.binds .any e=true→∀ (x:Value) (W:VP),env[e.on]? =some (x,W)→W x w)→steps P o a w (R.S env.length) (D (yOf env))else ∀w,R.C env.length w→D (yOf env) undef w)∧
  ∀x,(∃w,R.E w∧D (yOf env) x w)→z27 P ops R Q rest Ds (env++ [(x,D (yOf env))]) (a.put o.dst x)
 | [],[],env,a=>∀w,R.E w→(∀ (j:Nat) (x:Value) (W:VP),env[j]? =some (x,W)→W x w)→Q a w
 |_,_,_,_=>False
structure RegFr.OkD(R:RegFr)(ops:Array Oper)(Ds:List DP):Prop where
 V:∀i j,i<ops.size→j<ops.size→i≠j→z15 ops j i=false→∀y x w w',R.S i w w'→z4g Ds j y x w→z4g Ds j y x w'
 C:∀i j,i<ops.size→j<ops.size→i≠j→z15 ops i j=false→∀w w',R.S i w w'→R.C j w→R.C j w'
 E:∀i,i<ops.size→∀w w',R.S i w w'→R.E w→R.E w'
 D:∀j,j<ops.size→∀y y':Nat→Value,(∀i,z15 ops j i=true→y i=y' i)→z4g Ds j y=z4g Ds j y'
theorem zD4{R:RegFr}{Ds:List DP}(hg:z3C ops=true)(hR:R.OkD ops Ds){y:Nat→Value}{k:Nat}(hk:k<ops.size):z4g Ds k (yOf (zDI Ds y k))=z4g Ds k y:=
 hR.D k hk _ _ fun i hi=>zHc (z3u hg hk hi)
variable {R:RegFr} {Q:Act→World→Prop} {Ds:List DP} {a0:Act}
theorem z6E(hg:z3C ops=true)(hR:R.OkD ops Ds)(hlen:Ds.length=ops.size)(h0:z27 P ops R Q ops.toList Ds [] a0)(y:Nat→Value):∀k,k≤ops.size→(∀j,j<k→∃w,R.E w∧z4g Ds j y (y j) w)→
 z27 P ops R Q (ops.toList.drop k) (Ds.drop k) (zDI Ds y k) (z5n ops a0 y k)
 |0,_,_=>by simpa [zDI,z5n]using h0
 |k+1,hk,hy=>by
  have ih:=z6E hg hR hlen h0 y k (by omega) fun j hj=>hy j (by omega)
  have hk1:k<ops.toList.length:=by rw [Array.length_toList];omega
  have hk2:k<Ds.length:=by omega
  rw [List.drop_eq_getElem_cons (l:=ops.toList) hk1,List.drop_eq_getElem_cons (l:=Ds) hk2]at ih;have h2:=ih.2 (y k) (by
   obtain⟨w,hw,hv⟩:=hy k (by omega);refine⟨w,hw,?_⟩;have e:z4g Ds k=Ds[k]'(by omega):=by unfold z4g;simp [List.getD,List.getElem?_eq_getElem (show k<Ds.length by omega)]
   rw [←zD4 hg hR (by omega),e]at hv;exact hv)
  have e1:zDI Ds y (k+1)=zDI Ds y k++ [(y k,(Ds[k]'(by omega)) (yOf (zDI Ds y k)))]:=by
   have e:z4g Ds k=Ds[k]'(by omega):=by unfold z4g;simp [List.getD,List.getElem?_eq_getElem (show k<Ds.length by omega)]
   rw [←e,zD4 hg hR (by omega)];simp [zDI,List.range_succ]
  have e2:z5n ops a0 y (k+1)=(z5n ops a0 y k).put (ops.toList[k]'(by rw [Array.length_toList];omega)).dst (y k):=by
   rw [z5n]
   congr 1
   simp [z2B,Array.getElem?_eq_getElem (show k<ops.size by omega)]
  rw [e1,e2];exact h2
theorem z8o(hg:z3C ops=true)(hR:R.OkD ops Ds)(hlen:Ds.length=ops.size)
 (h0:z27 P ops R Q ops.toList Ds [] a0) {w:World} (hE:R.E w) {L:Nat→Bool} {x:Nat→Value} (hx:∀j,j<ops.size→L j=true→z4g Ds j x (x j) w) (hcl:∀ (i:Nat) (o:Oper),ops[i]? =some o→L i=true→∀e∈o.after,Region.binds .any e=true→L e.on=true) (hC:∀j,j<ops.size→L j=false→R.C j w):
 ∀k,k≤ops.size→∃ (y:Nat→Value) (w':World),R.E w'∧(∀j,L j=true→y j=x j)∧(∀j,j<ops.size→L j=true∨j<k→z4g Ds j y (y j) w')∧∀j,j<ops.size→L j=false→k≤j→R.C j w'
 |0,_=>⟨x,w,hE,fun _ _=>rfl,fun j hj h=>h.elim (hx j hj) (fun h=>by omega),fun j hj hl _=>hC j hj hl⟩
 |k+1,hk=>by
  obtain⟨y,w',hE',hyx,hy,hC'⟩:=z8o hg hR hlen h0 hE hx hcl hC k (by omega);by_cases hL:L k=true
  ·refine⟨y,w',hE',hyx,fun j hj h=>hy j hj ?_,fun j hj hl hkj=>hC' j hj hl (by omega)⟩;rcases h with h|h
   ·exact .inl h
   ·by_cases hjk:j=k
    ·subst hjk;exact .inl hL
    ·exact .inr (by omega)
  ·have hL':L k=false:=by simpa using hL
   have hcw:=hC' k (by omega) hL' (Nat.le_refl _);have hat:=z6E hg hR hlen h0 y k (by omega) fun j hj=>⟨w',hE',hy j (by omega) (.inr hj)⟩
   have hk1:k<ops.toList.length:=by rw [Array.length_toList];omega
   have hk2:k<Ds.length:=by omega
   rw [List.drop_eq_getElem_cons (l:=ops.toList) hk1,List.drop_eq_getElem_cons (l:=Ds) hk2]at hat;have e:z4g Ds k=Ds[k]'(by omega):=by unfold z4g;simp [List.getD,List.getElem?_eq_getElem (show k<Ds.length by omega)]
   have dep:=zD4 (y:=y) hg hR (show k<ops.size by omega);have hex:∃v w'',(w''=w'∨R.S k w' w'')∧z4g Ds k y v w'':=by
    have h1:=hat.1;rw [zCi]at h1
    split at h1
    ·obtain⟨v,w'',hbb,hv⟩:=z4E (h1 w' hcw fun e he hbd x W hxW=>by
      obtain⟨hlt,rfl,rfl⟩:=z97 hxW;exact hy _ (by omega) (.inr hlt))
     exact⟨v,w'',.inr hbb,by rw [←dep,e];exact hv⟩
    ·exact⟨undef,w',.inl rfl,by rw [←dep,e];exact h1 w' hcw⟩
   obtain⟨v,w'',hst,hv⟩:=hex;have ed:∀j,j<ops.size→z15 ops j k=false→z4g Ds j (fun j=>if j=k then v else y j)=z4g Ds j y:=fun j hj hw=>hR.D j hj _ _ fun i hi=>by
    have:i≠k:=fun e=>by subst e;rw [hw]at hi;cases hi
    simp [this]
   refine⟨fun j=>if j=k then v else y j,w'',?_,fun j hj=> ?_,fun j hj h=> ?_,fun j hj hl hkj=> ?_⟩
   ·rcases hst with rfl|hst
    ·exact hE'
    ·exact hR.E k (by omega) _ _ hst hE'
   ·have hne:j≠k:=by rintro rfl;exact hL hj
    simp only [hne,if_false];exact hyx j hj
   ·by_cases hjk:j=k
    ·subst hjk;rw [ed j hj (by
      cases hwt:z15 ops j j with
      |false=>rfl
      |true=>exact absurd (z3u hg hj hwt) (by omega))]
     simpa using hv
    ·have hwt:z15 ops j k=false:=by
      cases hwt:z15 ops j k with
      |false=>rfl
      |true=>
       have hkj:=z3u hg hj hwt;rcases h with h|h
       ·obtain⟨e,he,he2,hbd⟩:=(z12 (Array.getElem?_eq_getElem hj)).1 hwt;have:=hcl j _ (Array.getElem?_eq_getElem hj) h e he hbd;rw [he2,hL']at this;cases this
       ·omega
     rw [ed j hj hwt];simp only [hjk,if_false];have h4:=hy j hj (h.elim .inl fun h=> .inr (by omega));rcases hst with rfl|hst
     ·exact h4
     ·exact hR.V k j (by omega) hj (fun e=>hjk e.symm) hwt _ _ _ _ hst h4
   ·have h4:=hC' j hj hl (by omega);rcases hst with rfl|hst
    ·exact h4
    ·refine hR.C k j (by omega) hj (by omega) ?_ _ _ hst h4;cases hwt:z15 ops k j with
     |false=>rfl
     |true=>exact absurd (z3u hg (by omega) hwt) (by omega)
theorem zFp(hg:z3C ops=true)(hR:R.OkD ops Ds)(hlen:Ds.length=ops.size)
 (h0:z27 P ops R Q ops.toList Ds [] a0) {Q':Exit→Act→World→Prop} (hQ:∀a w,Q a w→Q' .normal a w):
 ∀ (fuel:Nat) (listed:Array Bool) (a:Act) (w:World) (x:Nat→Value),listed.size=ops.size→R.E w→(∀j,j<ops.size→listed.getD j false=false→R.C j w)→Laid ops a0 (fun j=>if listed.getD j false then some (x j)else none) a→
   (∀j,j<ops.size→listed.getD j false=true→z4g Ds j x (x j) w)→(∀ (i:Nat) (o:Oper),ops[i]? =some o→listed.getD i false=true→∀e∈o.after,Region.binds .any e=true→listed.getD e.on false=true)→
   unl ops.size listed≤fuel→wpAny P .any ops Q' fuel listed a w:=by
 obtain⟨hs1,hs2,hs3,hs4⟩:=z3S hg;have hlt:∀ {i:Nat} {o:Oper},ops[i]? =some o→i<ops.size:=fun ho=>(Array.getElem?_eq_some_iff.1 ho).1
 have hend:∀ (listed:Array Bool) (a:Act) (w:World) (x:Nat→Value),listed.size=ops.size→R.E w→Laid ops a0 (fun j=>if listed.getD j false then some (x j)else none) a→
  (∀j,j<ops.size→listed.getD j false=true→z4g Ds j x (x j) w)→Region.ready .any ops listed= []→Q' .normal a w:=by
  intro listed a w x hsz hw hL hx hr;have hall:∀n,∀j,j<n→j<ops.size→listed.getD j false=true:=by
   intro n
   induction n with
   |zero=>intro j hj;omega
   |succ n ih=>
    intro j hj hjs;rcases Nat.lt_or_ge j n with hjn|hjn
    ·exact ih j hjn hjs
    ·obtain rfl:j=n:=by omega
     cases hlj:listed.getD j false with
     |true=>rfl
     |false=>
      exfalso;have:j∈Region.ready .any ops listed:=mem_ready.2 ⟨by
       have hj':j<listed.size:=by omega
       simpa [Array.getD,hj']using hlj,ops[j],Array.getElem?_eq_getElem hjs,fun e he hb=>ih e.on (hs1 j _ (Array.getElem?_eq_getElem hjs) e he hb) (by have:=hs1 j _ (Array.getElem?_eq_getElem hjs) e he hb;omega)⟩
      rw [hr]at this;cases this
  have hat:=z6E hg hR hlen h0 x ops.size (Nat.le_refl _) fun j hj=>⟨w,hw,hx j hj (hall _ j hj hj)⟩
  rw [List.drop_of_length_le (by simp),List.drop_of_length_le (by omega)]at hat;have hq:=hat w hw fun j x' W hxW=>by
   obtain⟨hj,rfl,rfl⟩:=z97 hxW;exact hx j hj (hall _ j hj hj)
  have he:a=z5n ops a0 x ops.size:=Laid.same hL ((z2h hg a0 x ops.size (Nat.le_refl _)).congr fun j hj=>by simp only [hj,if_true,hall _ j hj hj]);rw [he];exact hQ _ _ hq
 intro fuel
 induction fuel with
 |zero=>
  intro listed a w x hsz hw hC hL hx hcl hf;have hr:Region.ready .any ops listed= []:=by
   rw [List.eq_nil_iff_forall_not_mem];intro i hi;obtain⟨h1,o,ho,_⟩:=mem_ready.1 hi;have:i∈(List.range ops.size).filter fun j=> !listed.getD j true:=List.mem_filter.2 ⟨List.mem_range.2 (hlt ho),by rw [h1];rfl⟩
   have hz:((List.range ops.size).filter fun j=> !listed.getD j true)= []:=List.eq_nil_of_length_eq_zero (by unfold unl at hf;omega);rw [hz]at this;cases this
  exact⟨hr,hend listed a w x hsz hw hL hx hr⟩
 |succ fuel ih=>
  intro listed a w x hsz hw hC hL hx hcl hf;refine⟨fun hr=>hend listed a w x hsz hw hL hx hr,fun i hi=> ?_⟩;obtain⟨hi1,o,ho,hdeps⟩:=mem_ready.1 hi;have hin:=hlt ho;have hi2:=zBj hi1;have eV:z4g Ds i=Ds[i]'(by omega):=by unfold z4g;simp [List.getD,List.getElem?_eq_getElem (show i<Ds.length by omega)]
  obtain⟨y,w',hE',hyx,hy,_⟩:=z8o hg hR hlen h0 hw (L:=fun j=>listed.getD j false) hx hcl hC i (by omega);have hat:=z6E hg hR hlen h0 y i (by omega) fun j hj=>⟨w',hE',hy j (by omega) (.inr hj)⟩
  have hk1:i<ops.toList.length:=by rw [Array.length_toList];omega
  have hk2:i<Ds.length:=by omega
  rw [List.drop_eq_getElem_cons (l:=ops.toList) hk1,List.drop_eq_getElem_cons (l:=Ds) hk2]at hat;have eo:ops.toList[i]'(by simpa using hin)=o:=by
   have:=Array.getElem?_eq_getElem hin;rw [ho]at this;simpa using (Option.some.inj this).symm
  rw [eo,←eV]at hat;have dep:=zD4 (y:=y) hg hR (show i<ops.size from hin);have dep2:z4g Ds i y=z4g Ds i x:=hR.D i hin _ _ fun j hj=>by
   obtain⟨e,he,rfl,hbd⟩:=(z12 ho).1 hj;exact hyx _ (hdeps e he hbd)
  have hlex:=z2h hg a0 y i (by omega);have hag:∀t∈o.looksAt ops,a.tmps[t]? =(z5n ops a0 y i).tmps[t]? :=by
   intro t ht;by_cases hj:∃j,j<ops.size∧z2B ops j=some t
   ·obtain⟨j,hjn,hjd⟩:=hj;have only:∀j',j'<ops.size→z2B ops j'=some t→j'=j:=fun j' h1 h2=>hs2 j' j t h1 hjn h2 hjd
    have hother:(listed.getD j false=false)→i≤j→a.tmps[t]? =(z5n ops a0 y i).tmps[t]? :=fun h1 h2=>by
     rw [hL.off t fun j' hj' hd'=>by rw [only j' hj' hd',h1];rfl,hlex.off t fun j' hj' hd'=>by
      rw [only j' hj' hd'];have:¬j<i:=by omega
      simp [this]]
    rcases hs3 i j o t ho hjn hjd ht with h|h|h
    ·obtain⟨e,he,rfl,hbd⟩:=(z12 ho).1 h;have hl:=hdeps e he hbd;have hji:=hs1 i o ho e he hbd;rw [hL.put e.on t (x e.on) hjn hjd (by rw [hl];rfl),hlex.put e.on t (y e.on) hjn hjd (by simp [hji]),hyx e.on hl]
    ·obtain⟨e,he,rfl,hbd⟩:=(z12 (Array.getElem?_eq_getElem hjn)).1 h;have hlt2:=hs1 j _ (Array.getElem?_eq_getElem hjn) e he hbd;refine hother ?_ (by omega);cases hlj:listed.getD j false with
     |false=>rfl
     |true=>
      have:=hcl j _ (Array.getElem?_eq_getElem hjn) hlj e he hbd;rw [hi2]at this;cases this
    ·subst h;exact hother hi2 (Nat.le_refl _)
   ·rw [hL.off t fun j hjn hjd=>absurd ⟨j,hjn,hjd⟩ hj,hlex.off t fun j hjn hjd=>absurd ⟨j,hjn,hjd⟩ hj]
  obtain⟨hex,hwant⟩:=z5g (ops:=ops) (hs4 i o · · ho) hag;have hnext:∀v w2,(w2=w∨R.S i w w2)→z4g Ds i x v w2→wpAny P .any ops Q' fuel (listed.setIfInBounds i true) (a.put o.dst v) w2:=by
   intro v w2 hst hv;have hset:∀j,(listed.setIfInBounds i true).getD j false=if j=i then true else listed.getD j false:=fun j=>by
    by_cases hji:j=i
    ·subst hji;have:j<listed.size:=by omega
     simp [Array.getD,this]
    ·rw [getD_set_ne false (fun e=>hji e.symm)];simp [hji]
   refine ih _ _ _ (fun j=>if j=i then v else x j) (by simpa using hsz) ?_ ?_ ?_ ?_ ?_ ?_
   ·rcases hst with rfl|hst
    ·exact hw
    ·exact hR.E i hin _ _ hst hw
   ·intro j hj hlj;rw [hset]at hlj;by_cases hji:j=i
    ·simp [hji]at hlj
    ·simp only [hji,if_false]at hlj;have h4:=hC j hj hlj;rcases hst with rfl|hst
     ·exact h4
     ·refine hR.C i j hin hj (fun e=>hji e.symm) ?_ _ _ hst h4;cases hwt:z15 ops i j with
      |false=>rfl
      |true=>
       obtain⟨e,he,rfl,hbd⟩:=(z12 ho).1 hwt;have:=hdeps e he hbd;rw [hlj]at this;cases this
   ·refine(hL.next hg ho (by rw [hi2];rfl) v).congr fun j hj=> ?_
    rw [hset];by_cases hji:j=i<;>simp [hji]
   ·intro j hj hlj;rw [hset]at hlj;have ed:z15 ops j i=false→z4g Ds j (fun j=>if j=i then v else x j)=z4g Ds j x:=fun hw=>hR.D j hj _ _ fun q hq=>by
     have:q≠i:=fun e=>by subst e;rw [hw]at hq;cases hq
     simp [this]
    by_cases hji:j=i
    ·subst hji;rw [ed (by
      cases hwt:z15 ops j j with
      |false=>rfl
      |true=>exact absurd (z3u hg hj hwt) (by omega))]
     simpa using hv
    ·simp only [hji,if_false]at hlj;have hwt:z15 ops j i=false:=by
      cases hwt:z15 ops j i with
      |false=>rfl
      |true=>
       obtain⟨e,he,he2,hbd⟩:=(z12 (Array.getElem?_eq_getElem hj)).1 hwt;have:=hcl j _ (Array.getElem?_eq_getElem hj) hlj e he hbd;rw [he2,hi2]at this;cases this
     rw [ed hwt];simp only [hji,if_false];have h4:=hx j hj hlj;rcases hst with rfl|hst
     ·exact h4
     ·exact hR.V i j hin hj (fun e=>hji e.symm) hwt _ _ _ _ hst h4
   ·intro k ok hok hlk e he hbd;rw [hset]at hlk ⊢;by_cases hki:k=i
    ·subst hki;obtain rfl:ok=o:=by rw [ho]at hok;exact(Option.some.inj hok).symm
     have:=hdeps e he hbd;by_cases h':e.on=k<;>simp [h',this]
    ·simp only [hki,if_false]at hlk;have:=hcl k ok hok hlk e he hbd;by_cases h':e.on=i<;>simp [h',this]
   ·have:unl ops.size (listed.setIfInBounds i true)<unl ops.size listed:=by
     refine z2M (List.range ops.size) (fun j _ hq=> ?_) i (List.mem_range.2 hin) (by rw [hi1];rfl) ?_
     ·by_cases hji:j=i
      ·subst hji;rw [hi1];rfl
      ·rwa [getD_set_ne true (fun e=>hji e.symm)]at hq
     ·have:i<listed.size:=by omega
      simp [Array.getD,this]
    omega
  unfold wpOp;simp only [ho];rw [hwant];have h1:=hat.1;rw [zCi]at h1;have hci:=hC i hin hi2
  split
  ·rename_i hwt;rw [if_pos hwt]at h1;refine .inl (z6w (S:=R.S i) (V:=z4g Ds i x) ?_ fun v w2 hb2 hv=>hnext v w2 (.inr hb2) hv);unfold steps;rw [hex,←dep2,←dep];exact h1 w hci fun e he hbd x' W hxW=>by
    obtain⟨hlt2,rfl,rfl⟩:=z97 hxW;have hl:=hdeps e he hbd;rw [hyx _ hl,hR.D e.on (by omega) y x fun q hq=>by
     obtain⟨e',he',rfl,hbd'⟩:=(z12 (Array.getElem?_eq_getElem (show e.on<ops.size by omega))).1 hq;exact hyx _ (hcl _ _ (Array.getElem?_eq_getElem (show e.on<ops.size by omega)) hl e' he' hbd')]
    exact hx _ (by omega) hl
  ·rename_i hwt;rw [if_neg hwt]at h1;exact hnext undef w (.inl rfl) (by rw [←dep2,←dep];exact h1 w hci)
theorem z93{id:Nat}{Q':Exit→Act→World→Prop}{w0:World}(l:List Oper)(hm:P.follows .mixedOrders=true)(hg:z3C l.toArray=true)(hR:R.OkD l.toArray Ds)(hlen:Ds.length=l.length)
 (hE:R.E w0.drew) (hC:∀j,j<l.toArray.size→R.C j w0.drew)
 (h0:z27 P l.toArray R (fun a w=>Q' .normal a w) l Ds [] a0):(Code.region id l.toArray true).wp P Q' a0 w0:=by
 have hno:∀j,(Array.replicate l.toArray.size false).getD j false=false:=fun j=>by unfold Array.getD;split<;>simp
 refine wp_region_any hm (zFp (Q:=fun a w=>Q' .normal a w) hg hR (by simpa using hlen) (by simpa using h0) (fun a w h=>h) _ _ _ _ (fun _=>undef) (by simp) hE (fun j hj _=>hC j hj) ?_ ?_ ?_ ?_)
 ·refine(Laid.start a0).congr fun j hj=> ?_
  rw [hno];rfl
 ·intro j hj h;rw [hno]at h;cases h
 ·intro i o ho h;rw [hno]at h;cases h
 ·unfold unl;exact Nat.le_trans (List.length_filter_le _ _) (by simp)
end
end
section
open Go Go.RowKit
set_option linter.unusedSimpArgs false
structure TrP where
 i:Nat
 F:Nat→Prop
 T:World→World→Prop
 ok:∀w w',T w w'→Turn F w w'
def TrP.of(i:Nat)(F:Nat→Prop):TrP:=⟨i,F,Turn F,fun _ _ h=>h⟩
def zGO(st:List TrP)(i:Nat):World→World→Prop:=fun w w'=>match st.find? (fun p=>p.i==i)with
 |some p=>p.T w w'
 |none=>Below w.heap.size w w'
def trX(ops:Array Oper)(st:List TrP)(j:Nat):Nat→Prop:=fun b=>∃p∈st,p.i≠j∧z15 ops p.i j=false∧p.F b
def trE(st:List TrP):Nat→Prop:=fun b=>∃p∈st,p.F b
def trR(ops:Array Oper)(st:List TrP)(w0:World):RegFr:=⟨zGO st,fun j=>Turn (trX ops st j) w0,Turn (trE st) w0⟩
theorem trX_E{ops:Array Oper}{st:List TrP}{j:Nat}(b:Nat)(h:trX ops st j b):trE st b:=by
 obtain⟨p,h1,_,_,h2⟩:=h;exact⟨p,h1,h2⟩
def z41(T:World→World→Prop)(V:VP):Prop:=∀v w w',T w w'→V v w→V v w'
def zEK(ops:Array Oper)(st:List TrP):Nat→List VP→Prop
 |_,[]=>True
 |j,V::Vs=>(Stays V∧∀p∈st,p.i≠j→z15 ops j p.i=false→z41 p.T V)∧zEK ops st (j+1) Vs
theorem allTr{ops:Array Oper}{st:List TrP}:∀ {Vs:List VP} {n:Nat},zEK ops st n Vs→∀j,j<Vs.length→Stays (vAt Vs j)∧∀p∈st,p.i≠n+j→z15 ops (n+j) p.i=false→z41 p.T (vAt Vs j)
 |V::Vs,n,h,0,_=>h.1
 |V::Vs,n,h,j+1,hj=>by
  have:=allTr h.2 j (by simp only [List.length_cons]at hj;omega);rw [show n+1+j=n+(j+1)from by omega]at this;exact this
theorem z9I{st:List TrP}{i:Nat}{p:TrP}(h:st.find? (fun p=>p.i==i)=some p):p∈st∧p.i=i:=by
 have h1:=List.find?_some h;exact⟨List.mem_of_find?_eq_some h,by simpa using h1⟩
section
variable {P:Program} {ops:Array Oper} {st:List TrP} {w0:World}
theorem zII{Vs:List VP}(hlen:Vs.length=ops.size)(h:zEK ops st 0 Vs):(trR ops st w0).Ok ops Vs:=by
 refine⟨fun i j hi hj hne hwt x w w' hS hv=> ?_,fun i j hi hj hne hwt w w' hS hC=> ?_,fun i hi w w' hS hE=> ?_⟩
 ·have h1:=allTr h j (by omega);rw [Nat.zero_add]at h1;simp only [trR,zGO]at hS
  split at hS
  ·rename_i p hp;obtain⟨hm,rfl⟩:=z9I hp;exact h1.2 p hm hne hwt x w w' hS hv
  ·exact h1.1 x w w' hS hv
 ·simp only [trR,zGO]at hS hC ⊢
  split at hS
  ·rename_i p hp;obtain⟨hm,rfl⟩:=z9I hp;exact hC.trans (p.ok _ _ hS) fun b hb=> .inl ⟨p,hm,hne,hwt,hb⟩
  ·exact hC.trans (Turn.of_below (F:=trX ops st j) hS) fun b hb=> .inl hb
 ·simp only [trR,zGO]at hS hE ⊢
  split at hS
  ·rename_i p hp;obtain⟨hm,rfl⟩:=z9I hp;exact hE.trans (p.ok _ _ hS) fun b hb=> .inl ⟨p,hm,hb⟩
  ·exact hE.trans (Turn.of_below (F:=trE st) hS) fun b hb=> .inl hb
theorem z5z{id:Nat}{Q':Exit→Act→World→Prop}{l:List Oper}{a0:Act}(st:List TrP)(hm:P.follows .mixedOrders=true)(hg:z3C l.toArray=true)
 (h:∃Vs,z1d P l.toArray (trR l.toArray st w0) (fun a w=>Q' .normal a w) l Vs [] a0∧zEK l.toArray st 0 Vs∧Vs.length=l.length):(Code.region id l.toArray true).wp P Q' a0 w0:=by
 obtain⟨Vs,h0,hS,hlen⟩:=h;exact z3m l hm hg (zII (by simpa using hlen) hS) hlen ((Turn.refl _ _).drew) (fun _ _=>(Turn.refl _ _).drew) h0
variable {Q:Act→World→Prop} {a:Act} {o:Oper} {rest:List Oper} {Vs:List VP} {env:List (Value×VP)}
theorem z2K{V:VP}(hw:Region.wanted o (yielded ops a.tmps)=true)(hs:st.find? (fun p=>p.i==env.length)=none)
 (h1:∀w,Turn (trE st) w0 w→(∀e∈o.after,Region.binds .any e=true→∀ (x:Value) (W:VP),env[e.on]? =some (x,W)→W x w)→z06 P o a w V)
 (h2:∀x,(∃w,Turn (trE st) w0 w∧V x w)→∀K:Act→Prop,(∀a',z1d P ops (trR ops st w0) Q rest Vs (env++ [(x,V)]) a'→K a')→K (a.put o.dst x)):z1d P ops (trR ops st w0) Q (o::rest) (V::Vs) env a:=by
 refine⟨?_,fun x hx=>h2 x hx _ fun _ h=>h⟩;rw [if_pos hw];intro w hC hf;have h3:=h1 w (Turn.mono hC fun b hb _=>trX_E b hb) hf;have eS:(trR ops st w0).S env.length=fun w w'=>Below w.heap.size w w':=by funext w w';simp only [trR,zGO,hs]
 rw [eS];unfold z06 at h3;unfold steps
 revert h3
 cases (execOp a.eval o).run P w with
 |ok n w'=>
  cases n<;>simp only [z0J,z0l]<;>first|exact fun h=>h|exact fun h=>h.2.mono fun e w'' ⟨v,he,hb,hv⟩=>⟨v,he,z1O h.1 hb,hv⟩
 |halt x w'=>simp only [z0J,z0l];exact fun h=>h
theorem z43{c:Value}(hw:Region.wanted o (yielded ops a.tmps)=true)(hs:st.find? (fun p=>p.i==env.length)=none)
 (h1:∀w,Turn (trE st) w0 w→(∀e∈o.after,Region.binds .any e=true→∀ (x:Value) (W:VP),env[e.on]? =some (x,W)→W x w)→z06 P o a w (Is c))
 (h2:∀K:Act→Prop,(∀a',z1d P ops (trR ops st w0) Q rest Vs (env++ [(c,Is c)]) a'→K a')→K (a.put o.dst c)):z1d P ops (trR ops st w0) Q (o::rest) (Is c::Vs) env a:=
 z2K hw hs h1 fun x ⟨_,_,hx⟩=>by
  obtain rfl:x=c:=hx;exact h2
theorem z24(hw:Region.wanted o (yielded ops a.tmps)=false)(h2:∀K:Act→Prop,(∀a',z1d P ops (trR ops st w0) Q rest Vs (env++ [(undef,Is undef)]) a'→K a')→K (a.put o.dst undef)):z1d P ops (trR ops st w0) Q (o::rest) (Is undef::Vs) env a:=by
 refine⟨by rw [if_neg (by rw [hw];simp)];exact fun _ _=>rfl,fun x ⟨w,_,hx⟩=> ?_⟩;obtain rfl:x=undef:=hx;exact h2 _ fun _ h=>h
theorem z5T{V:VP}(p:TrP)(hw:Region.wanted o (yielded ops a.tmps)=true)(hs:st.find? (fun p=>p.i==env.length)=some p)
 (h1:∀w,Turn (trX ops st env.length) w0 w→(∀e∈o.after,Region.binds .any e=true→∀ (x:Value) (W:VP),env[e.on]? =some (x,W)→W x w)→steps P o a w p.T V)
 (h2:∀x,(∃w,Turn (trE st) w0 w∧V x w)→∀K:Act→Prop,(∀a',z1d P ops (trR ops st w0) Q rest Vs (env++ [(x,V)]) a'→K a')→K (a.put o.dst x)):z1d P ops (trR ops st w0) Q (o::rest) (V::Vs) env a:=by
 refine⟨?_,fun x hx=>h2 x hx _ fun _ h=>h⟩;rw [if_pos hw];intro w hC hf;have eS:(trR ops st w0).S env.length=p.T:=by funext w w';simp only [trR,zGO,hs]
 rw [eS];exact h1 w hC hf
theorem zCN(h:∀w,Turn (trE st) w0 w→(∀ (j:Nat) (x:Value) (W:VP),env[j]? =some (x,W)→W x w)→Q a w):z1d P ops (trR ops st w0) Q [] [] env a:=h
theorem Is.tstays(c:Value)(T:World→World→Prop):z41 T (Is c):=fun _ _ _ _ h=>h
theorem okTr(c:Value)(j:Nat):Stays (Is c)∧∀p∈st,p.i≠j→z15 ops j p.i=false→z41 p.T (Is c):=⟨Stays.is c,fun p _ _ _=>Is.tstays c p.T⟩
end
theorem z85{ops:Array Oper}{p q:TrP}{j:Nat}{V:VP}(hS:Stays V)(h1:p.i=j∨z15 ops j p.i=true∨z41 p.T V)(h2:q.i=j∨z15 ops j q.i=true∨z41 q.T V):Stays V∧∀r∈ [p,q],r.i≠j→z15 ops j r.i=false→z41 r.T V:=
 ⟨hS,fun r hr hne hw=>by
   rcases List.mem_cons.1 hr with rfl|hr
   ·exact(h1.resolve_left hne).resolve_left (by rw [hw];simp)
   ·obtain rfl:=List.mem_singleton.1 hr;exact(h2.resolve_left hne).resolve_left (by rw [hw];simp)⟩
theorem trX2a{ops:Array Oper}{p q:TrP}{j b:Nat}(h:trX ops [p,q] j b)(hp:p.i=j):q.F b:=by
 obtain⟨r,hr,hne,_,hF⟩:=h;rcases List.mem_cons.1 hr with rfl|hr
 ·exact absurd hp hne
 ·obtain rfl:=List.mem_singleton.1 hr;exact hF
theorem trX2b{ops:Array Oper}{p q:TrP}{j b:Nat}(h:trX ops [p,q] j b)(hq:q.i=j):p.F b:=by
 obtain⟨r,hr,hne,_,hF⟩:=h;rcases List.mem_cons.1 hr with rfl|hr
 ·exact hF
 ·obtain rfl:=List.mem_singleton.1 hr;exact absurd hq hne
theorem zJT{p q:TrP}{b:Nat}:trE [p,q] b↔p.F b∨q.F b:=by simp [trE]
section
variable {F:Nat→Prop} {w w':World}
theorem Turn.cell(h:Turn F w w'){b k:Nat}{v:Value}(hc:w.cell? ⟨b,k,none⟩=some v)(hF:¬F b):w'.cell? ⟨b,k,none⟩=some v:=
 (World.cell?_of_block (a:=⟨b,k,none⟩) (h.block b (World.block_lt_of_cell? w ⟨b,k,none⟩ hc) hF)).trans hc
theorem z3o{B n size:Nat}{e:TypeId}{v:Value}{xs:List Value}(h:w.ownsRow B e size v n xs)(k:Turn F w w')(hF:∀g,v.ownBlock=some g→¬F g):w'.ownsRow B e size v n xs:=by
 refine⟨h.1,?_⟩;rcases h.2 with h2|⟨g,cap,cur,hv,hg,hh,r⟩
 ·exact .inl h2
 ·exact .inr ⟨g,cap,cur,hv,hg,(k.block g (lt_of_block hh) (hF g (by rw [hv];rfl))).trans hh,r⟩
def VRow(B:Nat)(e:TypeId)(size n:Nat)(xs:List Value)(ob:Option Nat)(s0:Nat):VP:=fun v w=>(∃A c,v= .slice A n c)∧w.ownsRow B e size v n xs∧(v.ownBlock=ob∨∃g,v.ownBlock=some g∧s0≤g)
theorem VRow.stays{B:Nat}{e:TypeId}{size n:Nat}{xs:List Value}{ob:Option Nat}{s0:Nat}:Stays (VRow B e size n xs ob s0):=fun v w w' hb h=>⟨h.1,z3o h.2.1 (Turn.of_below (F:=fun _=>False) hb) (fun _ _=>id),h.2.2⟩
theorem VRow.tstays{B:Nat}{e:TypeId}{size n:Nat}{xs:List Value}{ob:Option Nat}{s0:Nat}(h0:∀g,ob=some g→¬F g)(h1:∀g,F g→g<s0):z41 (Turn F) (VRow B e size n xs ob s0):=fun v w w' hT h=>
 ⟨h.1,z3o h.2.1 hT fun g hg hF=>by
   rcases h.2.2 with h2|⟨g',h2,h3⟩
   ·exact h0 g (h2▸hg) hF
   ·rw [hg]at h2;injection h2 with h2
    have:=h1 g hF;omega,h.2.2⟩
def VSl(s0 size n:Nat)(xs:List Value):VP:=fun v w=>(∃A k c,v= .slice A k c)∧Sl (fun b=>s0≤b∧b<w.heap.size) w size v n xs
theorem VSl.stays{s0 size n:Nat}{xs:List Value}:Stays (VSl s0 size n xs):=fun v w w' hb h=>⟨h.1,(Sl.below h.2 hb fun b h=>h.2).more fun b h=>⟨h.1,Nat.lt_of_lt_of_le h.2 hb.size⟩⟩
theorem VSl.tstays{s0 size n:Nat}{xs:List Value}(h1:∀g,F g→g<s0):z41 (Turn F) (VSl s0 size n xs):=fun v w w' hT h=>
 ⟨h.1,(Sl.keep h.2 fun b o hb=>World.cell?_of_block (hT.block b hb.2 fun hF=>by have:=h1 b hF;omega)).more fun b h=>⟨h.1,Nat.lt_of_lt_of_le h.2 hT.size⟩⟩
theorem z35{P:Program}{o:Oper}{a:Act}{s x:Operand}{t e:TypeId}{z:Value}{size bytes:Nat}(E:Elem P t e z size bytes)(ho:o.op= .call {callee:= .builtin .append,args:= #[s,x],argTypes:= #[t,t]})
 {B:Nat} {v:Value} {n:Nat} {xs:List Value} (hown:w.ownsRow B e size v n xs) {S:Nat→Prop} {u:Value} {m:Nat} {news:List Value} (hr:Sl S w size u m news) (hs:a.eval s=v) (hx:a.eval x=u) (h1:∀y∈news,y.oneCell'=true)
 (hlen:n+m≤maxLen) (hbytes:(n+m)*bytes≤140737488355328) (hB:B≤w.heap.size) {s0:Nat} (h0:s0≤w.heap.size):steps P o a w (Turn fun b=>v.ownBlock=some b) (VRow B e size (n+m) (xs++news) v.ownBlock s0):=by
 obtain⟨v',w',hrun,h2,h3,h4⟩:=z1k (P:=P) w E o.type hown hr h1 hlen hbytes hB;obtain⟨A,k,c,rfl⟩:=z0u h2;obtain rfl:=z0Q h2;unfold steps execOp;simp only [ho,resolve,invoke,builtin,Sem.run_bind,Sem.run_pure,Result.andThen_ok,List.map_toArray,List.map_cons,List.map_nil,hs,hx,hrun,z0l];refine⟨Turn.of_grown h3 fun z hz=>hz,⟨A,c,rfl⟩,h2,?_⟩;rcases h4 with h4|h4
 ·exact .inl h4
 ·exact .inr ⟨_,h4,h0⟩
end
end
section
open Go Go.RowKit
set_option linter.unusedSimpArgs false
def DIs(c:Value):DP:=fun _=>Is c
def DV(V:VP):DP:=fun _=>V
def okD(ops:Array Oper)(st:List TrP)(j:Nat)(D:DP):Prop:=
 (∀y,Stays (D y))∧(∀p∈st,p.i≠j→z15 ops j p.i=false→∀y,z41 p.T (D y))∧∀y y':Nat→Value,(∀i,z15 ops j i=true→y i=y' i)→D y=D y'
def zHJ(ops:Array Oper)(st:List TrP):Nat→List DP→Prop
 |_,[]=>True
 |j,D::Ds=>okD ops st j D∧zHJ ops st (j+1) Ds
theorem zJJ{ops:Array Oper}{st:List TrP}:∀ {Ds:List DP} {n:Nat},zHJ ops st n Ds→∀j,j<Ds.length→okD ops st (n+j) (z4g Ds j)
 |D::Ds,n,h,0,_=>h.1
 |D::Ds,n,h,j+1,hj=>by
  have:=zJJ h.2 j (by simp only [List.length_cons]at hj;omega);rw [show n+1+j=n+(j+1)from by omega]at this;exact this
section
variable {P:Program} {ops:Array Oper} {st:List TrP} {w0:World}
theorem zJ5{Ds:List DP}(hlen:Ds.length=ops.size)(h:zHJ ops st 0 Ds):(trR ops st w0).OkD ops Ds:=by
 have h0:=zII (ops:=ops) (st:=st) (w0:=w0) (Vs:=List.replicate ops.size (Is undef)) (by simp) (by
  have:∀n k,zEK ops st k (List.replicate n (Is undef)):=by
   intro n
   induction n with
   |zero=>exact fun _=>trivial
   |succ n ih=>exact fun k=>⟨okTr _ _,ih _⟩
  exact this _ _)
 refine⟨fun i j hi hj hne hwt y x w w' hS hv=> ?_,h0.C,h0.E,fun j hj y y' hy=> ?_⟩
 ·have h1:=zJJ h j (by omega);rw [Nat.zero_add]at h1;simp only [trR,zGO]at hS
  split at hS
  ·rename_i p hp;obtain⟨hm,rfl⟩:=z9I hp;exact h1.2.1 p hm hne hwt y x w w' hS hv
  ·exact h1.1 y x w w' hS hv
 ·have h1:=zJJ h j (by omega);rw [Nat.zero_add]at h1;exact h1.2.2 y y' hy
theorem z1H{id:Nat}{Q':Exit→Act→World→Prop}{l:List Oper}{a0:Act}(st:List TrP)(hm:P.follows .mixedOrders=true)(hg:z3C l.toArray=true)
 (h:∃Ds,z27 P l.toArray (trR l.toArray st w0) (fun a w=>Q' .normal a w) l Ds [] a0∧zHJ l.toArray st 0 Ds∧Ds.length=l.length):(Code.region id l.toArray true).wp P Q' a0 w0:=by
 obtain⟨Ds,h0,hS,hlen⟩:=h;exact z93 l hm hg (zJ5 (by simpa using hlen) hS) hlen ((Turn.refl _ _).drew) (fun _ _=>(Turn.refl _ _).drew) h0
variable {Q:Act→World→Prop} {a:Act} {o:Oper} {rest:List Oper} {Ds:List DP} {env:List (Value×VP)}
theorem z9i{D:DP}(hw:Region.wanted o (yielded ops a.tmps)=true)(hs:st.find? (fun p=>p.i==env.length)=none)
 (h1:∀w,Turn (trE st) w0 w→(∀e∈o.after,Region.binds .any e=true→∀ (x:Value) (W:VP),env[e.on]? =some (x,W)→W x w)→z06 P o a w (D (yOf env)))
 (h2:∀x,(∃w,Turn (trE st) w0 w∧D (yOf env) x w)→∀K:Act→Prop,(∀a',z27 P ops (trR ops st w0) Q rest Ds (env++ [(x,D (yOf env))]) a'→K a')→K (a.put o.dst x)):z27 P ops (trR ops st w0) Q (o::rest) (D::Ds) env a:=by
 refine⟨?_,fun x hx=>h2 x hx _ fun _ h=>h⟩;rw [if_pos hw];intro w hC hf;have h3:=h1 w (Turn.mono hC fun b hb _=>trX_E b hb) hf;have eS:(trR ops st w0).S env.length=fun w w'=>Below w.heap.size w w':=by funext w w';simp only [trR,zGO,hs]
 rw [eS];unfold z06 at h3;unfold steps
 revert h3
 cases (execOp a.eval o).run P w with
 |ok n w'=>
  cases n<;>simp only [z0J,z0l]<;>first|exact fun h=>h|exact fun h=>h.2.mono fun e w'' ⟨v,he,hb,hv⟩=>⟨v,he,z1O h.1 hb,hv⟩
 |halt x w'=>simp only [z0J,z0l];exact fun h=>h
theorem z1t{c:Value}(hw:Region.wanted o (yielded ops a.tmps)=true)(hs:st.find? (fun p=>p.i==env.length)=none)
 (h1:∀w,Turn (trE st) w0 w→(∀e∈o.after,Region.binds .any e=true→∀ (x:Value) (W:VP),env[e.on]? =some (x,W)→W x w)→z06 P o a w (Is c))
 (h2:∀K:Act→Prop,(∀a',z27 P ops (trR ops st w0) Q rest Ds (env++ [(c,Is c)]) a'→K a')→K (a.put o.dst c)):z27 P ops (trR ops st w0) Q (o::rest) (DIs c::Ds) env a:=
 z9i (D:=DIs c) hw hs h1 fun x ⟨_,_,hx⟩=>by
  obtain rfl:x=c:=hx;exact h2
theorem z9s{V:VP}(hw:Region.wanted o (yielded ops a.tmps)=true)(hs:st.find? (fun p=>p.i==env.length)=none)
 (h1:∀w,Turn (trE st) w0 w→(∀e∈o.after,Region.binds .any e=true→∀ (x:Value) (W:VP),env[e.on]? =some (x,W)→W x w)→z06 P o a w V)
 (h2:∀x,(∃w,Turn (trE st) w0 w∧V x w)→∀K:Act→Prop,(∀a',z27 P ops (trR ops st w0) Q rest Ds (env++ [(x,V)]) a'→K a')→K (a.put o.dst x)):z27 P ops (trR ops st w0) Q (o::rest) (DV V::Ds) env a:=
 z9i (D:=DV V) hw hs h1 h2
def DAs(f:(Nat→Value)→Value):DP:=fun y=>Is (f y)
theorem z7S(f:(Nat→Value)→Value){c:Value}(hc:f (yOf env)=c)(hw:Region.wanted o (yielded ops a.tmps)=true)(hs:st.find? (fun p=>p.i==env.length)=none)
 (h1:∀w,Turn (trE st) w0 w→(∀e∈o.after,Region.binds .any e=true→∀ (x:Value) (W:VP),env[e.on]? =some (x,W)→W x w)→z06 P o a w (Is c))
 (h2:∀K:Act→Prop,(∀a',z27 P ops (trR ops st w0) Q rest Ds (env++ [(c,Is c)]) a'→K a')→K (a.put o.dst c)):z27 P ops (trR ops st w0) Q (o::rest) (DAs f::Ds) env a:=by
 subst hc;exact z9i (D:=DAs f) hw hs h1 fun x ⟨_,_,hx⟩=>by
  obtain rfl:x=f (yOf env):=hx;exact h2
theorem z1D(hw:Region.wanted o (yielded ops a.tmps)=false)(h2:∀K:Act→Prop,(∀a',z27 P ops (trR ops st w0) Q rest Ds (env++ [(undef,Is undef)]) a'→K a')→K (a.put o.dst undef)):z27 P ops (trR ops st w0) Q (o::rest) (DIs undef::Ds) env a:=by
 refine⟨by rw [if_neg (by rw [hw];simp)];exact fun _ _=>rfl,fun x ⟨w,_,hx⟩=> ?_⟩;obtain rfl:x=undef:=hx;exact h2 _ fun _ h=>h
theorem zFX{D:DP}(p:TrP)(hw:Region.wanted o (yielded ops a.tmps)=true)(hs:st.find? (fun p=>p.i==env.length)=some p)
 (h1:∀w,Turn (trX ops st env.length) w0 w→(∀e∈o.after,Region.binds .any e=true→∀ (x:Value) (W:VP),env[e.on]? =some (x,W)→W x w)→steps P o a w p.T (D (yOf env)))
 (h2:∀x,(∃w,Turn (trE st) w0 w∧D (yOf env) x w)→∀K:Act→Prop,(∀a',z27 P ops (trR ops st w0) Q rest Ds (env++ [(x,D (yOf env))]) a'→K a')→K (a.put o.dst x)):z27 P ops (trR ops st w0) Q (o::rest) (D::Ds) env a:=by
 refine⟨?_,fun x hx=>h2 x hx _ fun _ h=>h⟩;rw [if_pos hw];intro w hC hf;have eS:(trR ops st w0).S env.length=p.T:=by funext w w';simp only [trR,zGO,hs]
 rw [eS];exact h1 w hC hf
theorem z3U{V:VP}(p:TrP)(hw:Region.wanted o (yielded ops a.tmps)=true)(hs:st.find? (fun p=>p.i==env.length)=some p)
 (h1:∀w,Turn (trX ops st env.length) w0 w→(∀e∈o.after,Region.binds .any e=true→∀ (x:Value) (W:VP),env[e.on]? =some (x,W)→W x w)→steps P o a w p.T V)
 (h2:∀x,(∃w,Turn (trE st) w0 w∧V x w)→∀K:Act→Prop,(∀a',z27 P ops (trR ops st w0) Q rest Ds (env++ [(x,V)]) a'→K a')→K (a.put o.dst x)):z27 P ops (trR ops st w0) Q (o::rest) (DV V::Ds) env a:=
 zFX (D:=DV V) p hw hs h1 h2
theorem z32(h:∀w,Turn (trE st) w0 w→(∀ (j:Nat) (x:Value) (W:VP),env[j]? =some (x,W)→W x w)→Q a w):z27 P ops (trR ops st w0) Q [] [] env a:=h
theorem z61(c:Value)(j:Nat):okD ops st j (DIs c):=⟨fun _=>Stays.is c,fun p _ _ _ _=>Is.tstays c p.T,fun _ _ _=>rfl⟩
theorem zAM(f:(Nat→Value)→Value)(j:Nat)(hf:∀y y':Nat→Value,(∀i,z15 ops j i=true→y i=y' i)→f y=f y'):okD ops st j (DAs f):=⟨fun _=>Stays.is _,fun p _ _ _ _=>Is.tstays _ p.T,fun y y' h=>by unfold DAs;rw [hf y y' h]⟩
theorem z9B{V:VP}{j:Nat}(h1:Stays V)(h2:∀p∈st,p.i≠j→z15 ops j p.i=false→z41 p.T V):okD ops st j (DV V):=⟨fun _=>h1,fun p hp hn hw _=>h2 p hp hn hw,fun _ _ _=>rfl⟩
end
end
section
open Go Go.RowKit
theorem pg_in{Z:Pz}{P:Pgr}{w:World}(p:Pg w Z P):∀i,P.has i=true→0≤i∧i<90:=fun i h=>by
 unfold Pgr.has at h;simp only [Bool.or_eq_true,Bool.and_eq_true]at h;rcases h with h|h
 ·first|exact p.wr.in90 i h|exact p.wr.in90 i h.1|exact p.tb.in90 i h.1
 ·first|exact p.wr.in90 i h|exact p.tb.in90 i h.1|exact p.wr.in90 i h.1
theorem zIU{P:Pgr}{c:Int→List UInt8}{i:Int}{x:Pag}(h:P.pg c i=some x):P.has i=true:=by
 unfold Pgr.pg Pgr.page at h;cases hh:P.has i with
 |true=>rfl
 |false=>rw [hh]at h;simp at h
theorem Tg.hpf{w:World}{g:Nat}{Z:Pz}{P:Pgr}{c:Int→List UInt8}(t:Tg w g Z P c):∀i x,P.pg c i=some x→POk x∧0≤i∧i<90:=fun i x h=>⟨pg_ok h,pg_in t.pg i (zIU h)⟩
def chkF(F:Option ChT)(n:Nat):Bool:=match F with
 |none=>false
 |some s=>z2V s.leaves&&decide (s.seen.length=n)
theorem chkT_F(pf:PF)(n:Nat):zGS pf n=chkF (z1x pf 91 [zET] ⟨[],[],0⟩) n:=rfl
theorem zDX{w:World}{b n:Nat}{f:Int→Option Value}{P:Program}{k:TypeId}(h:MpV P k w b f n){B:Nat}{e:TypeId}{size m:Nat}{v:Value}{xs:List Value}(ho:w.ownsRow B e size v m xs):v.ownBlock≠some b:=fun e'=>by
 rcases ho.2 with⟨rfl,_⟩|⟨g,cap,cur,rfl,_,hh,_⟩
 ·simp [Value.ownBlock]at e'
 ·simp [Value.ownBlock]at e';subst e';obtain⟨es,cl,h2⟩:=h.isMap;rw [hh]at h2;cases h2
theorem CkSt.leaf{w wr w':World}{bm:Nat}{tv lv iv lv' iv':Value}{td:List Und}{s:ChT}(h:CkSt w wr bm tv lv iv td s){F:Nat→Prop}(hT:Turn F wr w')(hF:∀b,F b→lv.ownBlock=some b∨iv.ownBlock=some b){i:Int}{x:Pag}{u:Value}(hu:∃A k c,u= .slice A k c){d:Nat}
 {us:List Value} (h1:us.length=s.leaves.length) (h2:wr.ownsRow w.heap.size 36 3 lv s.leaves.length (lfC (s.leaves.zip us))) (h5:∀u∈us,∃A k c,u= .slice A k c)
 (h3:w'.ownsRow w.heap.size 36 3 lv' (s.leaves.length+1) (lfC (s.leaves.zip us)++([.bool x.1,.int .i64 (x.2.1:Int),u]:List Value)))
 (h8:w'.ownsRow w.heap.size 3 1 iv' (s.leaves.length+1) (idC s.leaves++([.int .i64 i]:List Value))):CkSt w w' bm tv lv' iv' td ⟨s.leaves++ [(i,x)],s.seen,d⟩:=by
 obtain⟨f,h4,h6⟩:=h.seen;have hlv:=h2;have hne:∀b,F b→w.heap.size≤b:=fun b hb=>by
  rcases hF b hb with e|e
  ·exact(h2.lt b e).1
  ·exact(h.ids.lt b e).1
 refine⟨z3o h.todo hT fun g hg hb=> ?_,⟨us++ [u],by simp [h1],?_,fun y hy=> ?_⟩,?_,⟨f,h4.at (hT.block bm h4.lt fun hb=> ?_),h6⟩,Turn.below h.below hT h.below.size hne⟩
 ·rcases hF g hb with e|e
  ·exact z9F h.todo h2 (by decide) g hg e
  ·exact z9F h.todo h.ids (by decide) g hg e
 ·rw [List.zip_append h1.symm,zEf,List.length_append];exact h3
 ·rcases List.mem_append.1 hy with hy|hy
  ·exact h5 y hy
  ·obtain rfl:=List.mem_singleton.1 hy;exact hu
 ·rw [List.length_append];unfold idC at h8 ⊢;rw [List.map_append];exact h8
 ·rcases hF bm hb with e|e
  ·exact zDX h4 h2 e
  ·exact zDX h4 h.ids e
theorem zIe{l:List (Int×Pag)}{us:List Value}{i:Nat}{yi:Int}{yl:Bool}{yn:Nat}{yc:List Cel}{u:Value}(h:i<l.length)(hu:i<us.length)(hy:l[i]=(yi,yl,yn,yc))(hue:us[i]=u):∀j v,([.bool yl,.int .i64 (yn:Int),u]:List Value)[j]? =some v→(lfC (l.zip us))[i*3+j]? =some v:=by
 intro j v hv;have hz:i<(l.zip us).length:=by rw [List.length_zip];omega
 have e:l.zip us=(l.zip us).take i++((l.zip us)[i]::(l.zip us).drop (i+1)):=by rw [←List.drop_eq_getElem_cons hz,List.take_append_drop]
 have hl:((l.zip us).take i).length=i:=by rw [List.length_take];omega
 rw [e,zEf,List.getElem?_append_right (by rw [zGN,hl];omega),zGN,hl,Nat.add_sub_cancel_left];have e2:lfC ((l.zip us)[i]::(l.zip us).drop (i+1))=([.bool yl,.int .i64 (yn:Int),u]:List Value)++lfC ((l.zip us).drop (i+1)):=by
  rw [List.getElem_zip,hy,hue];rfl
 rw [e2,List.getElem?_append_left (List.getElem?_eq_some_iff.1 hv).1];exact hv
theorem zJI(a b:Nat):((a:Int)==(b:Int))=decide (a=b):=by
 by_cases h:a=b
 ·subst h;simp
 ·rw [decide_eq_false h,beq_eq_false_iff_ne.2 (by omega)]
noncomputable def zGm(w:World)(b:Nat):Nat:=Classical.epsilon fun n=>∃f,MpV Tryz.prog 3 w b f n
theorem MpV.cnt{w:World}{b n:Nat}{f:Int→Option Value}(h:MpV Tryz.prog 3 w b f n):zGm w b=n:=by
 obtain⟨f',h'⟩:∃f,MpV Tryz.prog 3 w b f (zGm w b):=Classical.epsilon_spec (p:=fun n=>∃f,MpV Tryz.prog 3 w b f n) ⟨n,f,h⟩;have h1:=h.len z1P zIG 3;rw [h'.len z1P zIG 3]at h1;injection h1 with h1
 injection h1 with _ h1
 omega
def zJK(b:Bool)(w:World)(e:Ending)(w':World):Prop:=e= .returned (.bool b)∧Below w.heap.size w w'
def opP(P:Pgr):Pgr:=if P.pages.length=0 then P.wp 0 (true,0,[])else P
def z55(Z:Pz)(P:Pgr)(c:Int→List UInt8)(w:World)(e:Ending)(w':World):Prop:=
 Ptp Z w Z w'∧Pg w' Z (opP P)∧Kin P (opP P)∧((zGS ((opP P).pg c) (opP P).pages.length=true∧∃g,w.heap.size≤g∧e= .returned (.tuple #[.pointer (some ⟨g,0,none⟩),.int .i64 0])∧Tg w' g Z (opP P) c)∨
  (zGS ((opP P).pg c) (opP P).pages.length=false∧e= .returned (.tuple #[.pointer none,.int .i64 142])))
theorem zIX:Mid []:=⟨by simp,fun c h=>by cases h⟩
end
end Go.Proofs.YthbhkdhljlganaaGreatDoor
