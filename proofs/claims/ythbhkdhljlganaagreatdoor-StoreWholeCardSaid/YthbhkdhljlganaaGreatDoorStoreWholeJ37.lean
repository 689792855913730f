/- Part 37. -/
import Derived.Test.YthbhkdhljlganaaGreatDoorStoreWholeJ35
namespace Go.Proofs.YthbhkdhljlganaaGreatDoor
set_option linter.unusedVariables false
set_option maxHeartbeats 16000000
set_option maxRecDepth 100000
section
open Go
def Q15:Prm:=⟨2,2,240⟩
theorem z62:Q15.Ok:=⟨by decide,by decide,by decide,by decide,by decide,by decide⟩
theorem z7M{P:Pgr}{c:Int→List UInt8}{D:Nat}{t:Ct D}(T:Tree Q15 P c D t)(h:(Ct.cells D t).length≤12):1+(Ct.subs D t).length≤11:=by
 cases D with
 |zero=>simp [Ct.subs]
 |succ D=>
  obtain⟨le,inn,h1,h2,h3,h4⟩:=T.bound (by decide);have e1:Q15.m=2:=rfl;have e2:Q15.a=2:=rfl;rw [e1]at h3;rw [e2]at h4;omega
theorem zGl{P:Pgr}{c:Int→List UInt8}{D:Nat}{t:Ct D}(T:Tree Q15 P c D t)(h:(Ct.cells D t).length≤12):1+(Ct.subs D t).length+D+3≤90∧D≤10:=by
 have h1:=z7M T h;have h2:=z9g D t (T.fl.weak z62) fun h0=>by
  have:=T.root;obtain⟨D',rfl⟩:∃D',D=D'+1:=⟨D-1,by omega⟩;simp only [z89]at this;omega
 omega
theorem zH6{P:Pgr}{c:Int→List UInt8}{D:Nat}{t:Ct D}(T:Tree Q15 P c D t)(h:(Ct.cells D t).length≤12){x:Chg}(hx:x.k.length≤240∧chN x≤480):
 z7h Q15 D t x∧∃D',∃t':Ct D',Tree Q15 (chgP P c (Ct.cells D t) x) c D' t'∧Ct.cells D' t'=chgC (Ct.cells D t) x:=by
 obtain⟨hr,hd⟩:=zGl T h;obtain⟨k,v,gn⟩:=x;cases gn with
 |true=>
  refine⟨fun _=> .inl hr,?_⟩;by_cases hk:isK (Ct.cells D t) k=true
  ·obtain⟨w,h1,h2,h3,h4,D',t',r⟩:=zI4 z62 T hk (.inl hr);refine⟨D',t',?_,?_⟩
   ·have e:chgP P c (Ct.cells D t) ⟨k,v,true⟩=(deleteT P c w k).1:=by
     unfold chgP;simp only [if_true,hk];rw [zFO h1 (by omega)]
    rw [e];exact r.tree
   ·rw [r.cells];unfold chgC;simp [hk]
  ·have e:chgP P c (Ct.cells D t) ⟨k,v,true⟩=P:=by unfold chgP;simp [hk]
   have e2:chgC (Ct.cells D t) ⟨k,v,true⟩=Ct.cells D t:=by unfold chgC;simp [hk]
   rw [e,e2];exact⟨D,t,T,rfl⟩
 |false=>
  have hx2:k.length+v.length≤480:=hx.2;refine⟨⟨hx.1,hx2,hr⟩,?_⟩;obtain⟨w,h1,h2,h3,h4,D',t',r⟩:=zFW z62 T (x:=(k,v)) hx.1 hx2 hr;refine⟨D',t',?_,r.cells⟩;have e:chgP P c (Ct.cells D t) ⟨k,v,false⟩=(putT P w (k,v)).1:=by
   unfold chgP;simp only [Bool.false_eq_true,if_false];rw [zFJ h1 (by omega)]
  rw [e];exact r.tree
theorem z9U(L:List Cel)(x:Chg):(chgC L x).length≤L.length+(if x.gone then 0 else 1):=by
 obtain⟨k,v,gn⟩:=x;unfold chgC;cases gn with
 |true=>
  simp only [if_true]
  split
  ·have:=z6F L k;omega
  ·omega
 |false=>
  have:=z3w L (k,v);simp only [Bool.false_eq_true,if_false];omega
theorem z8Y(x:Chg)(r:List Chg):z1L (x::r)=(if x.gone then 0 else 1)+z1L r:=by
 obtain⟨k,v,gn⟩:=x;cases gn
 ·simp [z1L];omega
 ·simp [z1L]
theorem z9X{c:Int→List UInt8}:∀ (l:List Chg) (P:Pgr) (D:Nat) (t:Ct D),Tree Q15 P c D t→(∀x∈l,x.k.length≤240∧chN x≤480)→(Ct.cells D t).length+z1L l≤12→
 z4B Q15 c P (Ct.cells D t) l∧∃D',∃t':Ct D',Tree Q15 (chgsP c P (Ct.cells D t) l) c D' t'∧Ct.cells D' t'=chgsC (Ct.cells D t) l
 | [],P,D,t,T,_,_=>⟨trivial,D,t,T,rfl⟩
 |x::r,P,D,t,T,hx,hn=>by
  rw [z8Y]at hn;obtain⟨h1,D1,t1,T1,e1⟩:=zH6 T (by omega) (hx x (by simp));have hlen:=z9U (Ct.cells D t) x;obtain⟨h2,D2,t2,T2,e2⟩:=z9X r _ D1 t1 T1 (fun y hy=>hx y (by simp [hy])) (by rw [e1];omega);rw [e1]at h2 T2 e2;exact⟨⟨⟨D,t,T,rfl,h1⟩,h2⟩,D2,t2,T2,e2⟩
end
section
open Go Go.RowKit
theorem zG6(gs g gl:Nat)(Z:Pz)(P:Pgr)(c:Int→List UInt8)(l:Wl)(w:World)(hs:Sto w gs g gl Z P c l):
 Calls Tryz.prog 24 #[.pointer (some ⟨gs,0,none⟩)] w fun e w'=>e= .returned (.tuple #[])∧∃Z',StoDone w w' gs g gl Z (P.on l.sync.D) c l.sync Z':=by
 have HS:=zz hs;obtain⟨lv,sv,v⟩:=hs.lg;have HV:=zz v;have s2:w.cell? ⟨gs,2,none⟩=some (.pointer (some ⟨gl,0,none⟩)):=hs.blk.cell 2;have HO:=zz hs.ok.dok;clear hs v;go_enter Tryz.func24,Tryz.ntmps24
 go_wp2_with fail
 refine(z4V Z.h l.D gl l.a l.n l.size lv sv l.last l.synced w HV.out.dk HO.out HV.out.lb).mono ?_;rintro e w1 ⟨rfl,h',hd,hl,hm⟩;have hg:Lg w1 gl h' l.sync:=⟨lv,sv,HV.out.sync hd hl hm⟩;have hst:z44 l.sync.D P.a P.tb c:=by
  have:=HS.out.T.pr.stored;rw [←HS.out.D]at this;exact this
 have H1:=zz (HS.out.log hg hm HS.out.ok.sync hst);have HO1:Hid (Sop gl Z w (Z.on h') w1):=Sop.mtp hm;clear hd hl hm hg hst HS HV;go_wp2_with fail
 go_end0
 exact⟨rfl,_,H1.out,HO1.out⟩
theorem zEI(gs g gl:Nat)(Z:Pz)(P:Pgr)(c:Int→List UInt8)(l:Wl)(w:World)(hs:Sto w gs g gl Z P c l):
 Calls Tryz.prog 22 #[.pointer (some ⟨gs,0,none⟩)] w fun e w'=>e= .returned (.int .u64 (l.last:Int))∧Below w.heap.size w w':=by
 obtain⟨lv,sv,v⟩:=hs.lg;have HV:=zz v;have s2:w.cell? ⟨gs,2,none⟩=some (.pointer (some ⟨gl,0,none⟩)):=hs.blk.cell 2;clear hs v;go_enter Tryz.func22,Tryz.ntmps22
 go_wp2_with fail
 refine(zDz gl Z.h.g l.a l.n l.size lv sv l.last l.synced w HV.out.lb).mono ?_;rintro e w1 ⟨rfl,rfl⟩;go_wp2_with fail
 go_ret
 exact⟨rfl,Below.refl _ _⟩
end
section
open Go
def Chg.norm(x:Chg):Chg:=if x.gone then⟨x.k,[],true⟩else x
theorem z6e{k:List UInt8}(hk:k.length≤65536)(s:List UInt8):z0O (z11 k++s) 0=(k,s,0):=by
 unfold z11;rw [List.append_assoc];exact z4X hk s
theorem zE9{x:Chg}(hx:x.k.length≤480∧(x.gone=false→x.v.length≤480))(s:List UInt8):z7w (z7u x++s,0)=(x.norm,(s,0)):=by
 obtain⟨k,v,gn⟩:=x;simp only at hx;unfold z7w z7u Chg.norm;simp only [List.append_assoc];rw [z6e (by omega),z8b];cases gn with
 |true=>simp
 |false=>
  have:=hx.2 rfl;simp only [Bool.false_eq_true,if_false];rw [z6e (by omega)]
theorem z7J:∀ (l:List Chg),(∀x∈l,x.k.length≤480∧(x.gone=false→x.v.length≤480))→∀ (s:List UInt8) (acc:List Chg),z1h l.length (l.flatMap z7u++s,0) acc=(acc++l.map Chg.norm,(s,0))
 | [],_,s,acc=>by simp [z1h]
 |x::r,h,s,acc=>by
  rw [List.length_cons,z1h,List.flatMap_cons,List.append_assoc,zE9 (h x (by simp))];simp only;rw [z7J r (fun y hy=>h y (by simp [hy]))];simp
theorem zDu{l:List Chg}(h:zGQ l):z1G (z0V l)=(l.map Chg.norm,true):=by
 have hl:=h.1;unfold z1G z0V;have h1:=z4j (x:=l.length) (by unfold U64;omega) (m:=11) hl (l.flatMap z7u);rw [show((11:Nat):Int)=11 from rfl]at h1;rw [h1];simp only;have h2:=z7J l h.2 [] [];rw [List.append_nil,List.nil_append]at h2;rw [h2];rfl
theorem zH8(x:Chg):chN x.norm=chN x:=by
 obtain⟨k,v,gn⟩:=x;cases gn<;>rfl
theorem norm_k(x:Chg):x.norm.k=x.k:=by
 obtain⟨k,v,gn⟩:=x;cases gn<;>rfl
theorem zEd(x:Chg):x.norm.gone=x.gone:=by
 obtain⟨k,v,gn⟩:=x;cases gn<;>rfl
theorem zFF(P:Pgr)(l:List Chg):z3W P (l.map Chg.norm)=z3W P l:=by
 have h1:(l.map Chg.norm).any z2w=l.any z2w:=by
  rw [List.any_map]
  congr 1
  funext x
  show z2w x.norm=z2w x;unfold z2w;rw [zH8,norm_k]
 have h2:z1L (l.map Chg.norm)=z1L l:=by
  unfold z1L;rw [List.filter_map,List.length_map]
  congr 2
  funext x
  show(!x.norm.gone)= !x.gone;rw [zEd]
 unfold z3W;rw [List.length_map,h1,h2]
theorem z9z(P:Pgr)(c:Int→List UInt8)(L:List Cel)(x:Chg):chgP P c L x.norm=chgP P c L x:=by
 obtain⟨k,v,gn⟩:=x;cases gn<;>rfl
theorem z6y(L:List Cel)(x:Chg):chgC L x.norm=chgC L x:=by
 obtain⟨k,v,gn⟩:=x;cases gn<;>rfl
theorem z5k(c:Int→List UInt8):∀ (l:List Chg) (P:Pgr) (L:List Cel),chgsP c P L (l.map Chg.norm)=chgsP c P L l
 | [],P,L=>rfl
 |x::r,P,L=>by
  rw [List.map_cons,chgsP,chgsP,z9z,z6y,z5k c r]
theorem z8w(l:List Chg):∀L:List Cel,chgsC L (l.map Chg.norm)=chgsC L l:=by
 induction l with
 |nil=>exact fun L=>rfl
 |cons x r ih=>
  intro L;show chgsC (chgC L x.norm) (r.map Chg.norm)=chgsC (chgC L x) r;rw [z6y,ih]
end
section
open Go Go.RowKit
end
end Go.Proofs.YthbhkdhljlganaaGreatDoor
