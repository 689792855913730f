/- Part 23. -/
import Derived.Test.YthbhkdhljlganaaGreatDoorStoreWholeJ22
import Derived.ReadAgain
import Derived.Below
import Derived.ChangeSame
import Derived.ChangeShapes
import Derived.Test.YthbhkdhljlganaaGreatDoorRows
import Derived.ProofKit
import Derived.OpenShut
import Derived.ChangeMaps5
import Derived.Deep.DeepHandedRow
import Derived.Lib.LaidTab
import Derived.Lib.SmallJoins
import Derived.Deep.Slices
import Derived.Deep.Fields
namespace Go.Proofs.YthbhkdhljlganaaGreatDoor
set_option linter.unusedVariables false
set_option maxHeartbeats 16000000
set_option maxRecDepth 100000
section
open Go Go.RowKit
theorem zHt{rs:List (Nat×List UInt8)}{j:Nat}(h:j<rs.length):(rcs rs)[j*2]? =some (.int .u64 (rs[j].1:Int))∧(rcs rs)[j*2+1]? =some (.string (st rs[j].2)):=by
 induction rs generalizing j with
 |nil=>simp at h
 |cons r rs ih=>
  rcases j with _|j
  ·simp [rcs]
  ·have:=ih (j:=j) (by simpa using h);simp only [rcs,List.flatMap_cons]at this ⊢;rw [show(j+1)*2=j*2+1+1 by omega];simpa using this
theorem zDj{D:Dsk}(hok:D.Ok){a:Int}{size i q:Nat}{rs:List Rcd}(hs:size≤64)(h:z1Q D.view a size i=some (q,rs)):rs.length≤40000:=by
 have hl:=z5b hok size (a+(i:Int)*size);unfold z1Q z4G at h
 split at h
 ·split at h
  ·injection h with h
   injection h with _ h
   subst h;refine Nat.le_trans (z3n _ _ _) ?_;rw [List.length_drop];omega
  ·cases h
 ·cases h
theorem ChSt.fin{all:List Fd}{frm n:Nat}(hall:∀y∈all,y.at'<n∧y.recs.length≤40000):∀ (m:Nat) {live:List Sg} {last:Nat} {out:List Rcd} {nx:Option Fd},ChSt all frm n live last out nx→live.length+m=n+1→
 ∃live' last' out',z2Y all frm (n+1) [] frm [] (z1j frm all none)=(live',last',out')∧(live'.map (·.at')).Nodup∧(∀s∈live',s.at'<n)∧last'<U64∧out'.length≤n*40000
 |0,live,last,out,nx,s,hm=>by have:=s.len;omega
 |m+1,live,last,out,none,s,hm=>⟨live,last,out,s.end,s.nd,s.lt,s.last,Nat.le_trans s.out (Nat.mul_le_mul_right _ s.len)⟩
 |m+1,live,last,out,some x,s,hm=>ChSt.fin hall m (s.next hall) (by rw [List.length_append,List.length_singleton];omega)
section
variable {D:Dsk} {a:Int} {n size frm:Nat}
theorem zAr(hok:D.Ok)(hs:size≤64)(hf:frm<U64):∃live last out,z2Y (z3G D.view a size n) frm (n+1) [] frm [] (z1j frm (z3G D.view a size n) none)=(live,last,out)∧(live.map (·.at')).Nodup∧(∀s∈live,s.at'<n)∧last<U64∧out.length≤n*40000:=
 ChSt.fin (fun y hy=>⟨(z1r hy).1,zDj hok hs (z1r hy).2⟩) (n+1) (ChSt.start hf) (by simp)
theorem zEm(D:Dsk)(a:Int)(n size frm:Nat):(z16 D a n size frm).1.a=a∧(z16 D a n size frm).1.n=n∧(z16 D a n size frm).1.size=size∧(z16 D a n size frm).1.stream= []:=⟨rfl,rfl,rfl,rfl⟩
theorem zGs(hok:D.Ok)(hn2:2≤n)(hn:n≤64)(hs1:1≤size)(hs:size≤64)(h0:0≤a)(h1:a+(n:Int)*size≤65536)(hf:frm<U64):(z16 D a n size frm).1.Ok:=by
 obtain⟨live,last,out,e,h2,h3,h4,_⟩:=zAr (D:=D) (a:=a) (n:=n) hok hs hf;have hD:=ow_D e;have hl:=zBH e;have hy:=z6Z e;have hv:=zC1 e;have hm:max last frm<U64:=by omega
 refine⟨by rw [hD];exact(z2t hok a size live n).sync,hn2,hn,hs1,hs,h0,h1,by rw [hl];exact hm,by rw [hy];exact hm,by rw [hv];exact h2,by rw [hv];exact h3,fun h=>(h rfl).elim,Nat.zero_le _⟩
theorem zDV(hok:D.Ok)(hs:size≤64)(hf:frm<U64):(z16 D a n size frm).1.D.pend= []:=by
 obtain⟨live,last,out,e,_⟩:=zAr (D:=D) (a:=a) (n:=n) hok hs hf;rw [ow_D e];rfl
end
theorem Wl.Ok.append{l:Wl}(ok:l.Ok)(t:List UInt8):(z0F l t).1.Ok:=by
 obtain⟨q,hq⟩:∃q,q=(l.last+1)%U64:=⟨_,rfl⟩;have hqU:q<U64:=by rw [hq];exact Nat.mod_lt _ (by unfold U64;omega)
 obtain⟨head,hh⟩:∃head,head=z1N q titleB:=⟨_,rfl⟩;obtain⟨b,hb⟩:∃b,b=z1N q t:=⟨_,rfl⟩;by_cases hlong:32768<t.length∨512*l.size<head.length+b.length
 ·rw [z4O hq hh hb hlong];exact ok
 have key:∀ {L:List Sg} {s:List UInt8} {i:Nat} {fr:Bool},ApC l q head b L s i fr→(z0F l t).1.Ok:=by
  intro L s i fr c;obtain⟨r,hr⟩:∃r,z3b l.D (l.a+(i:Int)*l.size) (s++b) (s++b).length (z1v l fr / 512)=r:=⟨_,rfl⟩;have hD:r.1.Ok:=by rw [←hr];exact zBW _ _ _ _ ok.dok
  by_cases h0:r.2=0
  ·rw [z4R hq hh hb hlong c hr h0];exact c.ok ok hqU hlong hD
  ·rw [z8H hq hh hb hlong c hr h0];cases fr with
   |true=>exact(ok.drop (z53 hD _ _)).sync
   |false=>exact ok.drop hD
 by_cases hfr:l.stream= []∨512*l.size<l.stream.length+b.length
 ·cases hw:z2k l.live l.n with
  |none=>rw [z5u hq hh hb hlong hfr hw];exact ok
  |some i=>exact key (L:=l.live++ [⟨i,q,0⟩]) (s:=head) (i:=i) (fr:=true) ⟨fun _=>⟨hfr,hw,rfl,rfl⟩,fun e=>(by cases e)⟩
 ·exact key (L:=l.live) (s:=l.stream) (fr:=false) ⟨fun e=>(by cases e),fun _=>⟨hfr,rfl,rfl,rfl⟩⟩
section
variable {w W W':World} {gl:Nat} {h h':Zn} {l:Wl} {D:Dsk}
end
theorem z6r{f:SF}{a:Int}{size:Nat}(hf:∀x,f x=none):∀n,z3G f a size n= []
 |0=>rfl
 |n+1=>by
  rw [z25,z6r hf n,List.nil_append];refine z5m ?_;unfold z1Q;have:z1E f (a+(n:Int)*size) size= []:=by
   cases size with
   |zero=>rfl
   |succ s=>exact z3i (hf _)
  rw [this];unfold z4G;rw [z5V]
theorem z8z{D:Dsk}(hf:∀x,D.view x=none)(p:Int):∀n,z2f D p n=D
 |0=>rfl
 |n+1=>by
  rw [z2f,z8z hf p n];unfold Dsk.free;rw [hf];rfl
theorem z5Q{D:Dsk}(hf:∀x,D.view x=none)(a:Int)(size:Nat)(live:List Sg):∀n,z0I D a size live n=D
 |0=>rfl
 |n+1=>by
  rw [z0I,z5Q hf a size live n]
  split
  ·rfl
  ·exact z8z hf _ _
theorem zDJ{D:Dsk}(hf:∀x,D.view x=none)(a:Int)(n size frm:Nat):z16 D a n size frm=({D:=D.sync,a:=a,n:=n,size:=size,live:= [],stream:= [],last:=frm,synced:=frm},[]):=by
 unfold z16;rw [z6r hf n];show(Wl.sync _,_)=_;simp only [z1j,z2Y,z5Q hf,Wl.sync,Nat.max_self]
section
variable {cs:List Cel} {k:List UInt8} {i:Nat}
theorem at_lo(h:i<z03 cs k)(hi:i<cs.length):Op.bytesLess cs[i].1 k=true:=z6Q h
theorem at_hi(ha:Asc cs)(h:z03 cs k≤i)(hi:i<cs.length):Op.bytesLess cs[i].1 k=false:=by
 rw [z92];refine z9V (k:=k) ha ?_;rw [List.mem_iff_getElem];exact⟨i-z03 cs k,by rw [List.length_drop];omega,by rw [List.getElem_drop];congr 1;omega⟩
theorem at_ne(ha:Asc cs)(h:z03 cs k<i)(hi:i<cs.length):cs[i].1≠k:=by
 have hK:z03 cs k<cs.length:=by omega
 have h1:=at_hi (k:=k) ha (Nat.le_refl _) hK;unfold Asc at ha;rw [List.pairwise_iff_getElem]at ha;have h2:=ha _ _ hK hi h;intro e;rw [e]at h2;exact z92.1 h1 h2
theorem at_is(h:z03 cs k<cs.length):isK cs k=(cs[z03 cs k].1==k):=by
 unfold isK;rw [List.getElem?_eq_getElem h]
theorem lo_ne(h:i<z03 cs k)(hi:i<cs.length):cs[i].1≠k:=by
 have:=z2I.1 (at_lo h hi);exact this.ne
end
end
section
open Go Go.ChangeShapes Go.WideShapes Go.RowKit
section
variable {H:Type} {enc:TypeId×Value→H} {P:Program}
theorem z54{w w':World}{base:Nat}{sp:Nat→Bool}{hd:Bool}:∀ {ts:List TypeId} {vs:List Value} {ds:List (DataW H)} {ps:List MemPlace},DataW.TrodAll enc P w base sp hd ts vs ds ps→(∀p∈ps,w.sameAt w' p)→DataW.TrodAll enc P w' base sp hd ts vs ds ps
 | [],[],[],_,h,_=>h
 |_::_,_::_,_::_,_,⟨p,q,⟨n,h1⟩,h2,e⟩,hs=>⟨p,q,⟨n,DataW.trod_carry n _ _ _ h1 (fun x hx=>hs x (by rw [e];exact List.mem_append_left _ hx))⟩,z54 h2 (fun x hx=>hs x (by rw [e];exact List.mem_append_right _ hx)),e⟩
theorem law_post{f:Func}{s:ChangeSpec}{W W':World}{args:Array Value}{v:Value}{ds gs:List (DataW H)}{before:List MemPlace}(K:Kids P (· <P.types.size))(hz:∀t e,t<P.types.size→P.underlying t=some (.slice e)→0<P.cellsOf e)
 (hT:∀t∈f.params.toList,t<P.types.size) (hvs:s.vars= []) (hW:DataW.Whole enc P f.params.toList s.vars false W args.toList ds gs before) (hb:Below W.heap.size W W')
 (hargs:(s.fn H (ds++gs)).args=ds) (hvars:(s.fn H (ds++gs)).vars= [])
 (hres:DataW.TrodAll enc P W' W.heap.size (fun _=>false) false f.resultTypes.toList (v.resultList f.resultTypes.size) (s.fn H (ds++gs)).results []):
 s.post enc P f false true false false W args v W':=by
 have hlt:∀p∈before,p.block<W.heap.size:=fun p hp=>hW.lt p hp
 have hW0:=hW;obtain⟨p,q,hA,hV,hpq,hfz,hnd⟩:=hW;have hold:∀x∈p,(fun b=>decide (b<W.heap.size)) x.block=true:=fun x hx=>by simpa using hlt x (by rw [hpq];exact List.mem_append_left _ hx)
 have hA1:=DataW.TrodAll.respare K hz (spare':=fun b=>decide (b<W.heap.size)) hT hA hold;have hA2:=z54 (w':=W') hA1 (fun x hx=>hb.same (hlt x (by rw [hpq];exact List.mem_append_left _ hx)));refine⟨ds,gs,before,[],p,[],hW0,hres,by rw [hargs];exact hA2,?_,hb.frame _,fun h=>by cases h⟩;rw [hvs,hvars];exact rfl
end
end
section
open Go.ChangeShapes Go.WideShapes Go.ChangeAt Go.RowKit
open Go.ChangeMaps (open_string shut_string)
theorem own:ownKnob Tryz.prog.godebug=none:=by kernel_rfl
theorem zIh:laidOutB Tryz.prog=true:=by kernel_rfl
theorem kids:Kids Tryz.prog (· <Tryz.prog.types.size):=kids_rows zIh (by kernel_rfl)
theorem full:∀t e,t<Tryz.prog.types.size→Tryz.prog.underlying t=some (.slice e)→0<Tryz.prog.cellsOf e:=slices_full_of _ (by kernel_rfl)
theorem gTab:Tryz.prog.globalNamed "lapstone/num.bits" =some 0:=by kernel_rfl
theorem zH3:(Tryz.prog.globals[0]?).map (·.type)=some 221:=by kernel_rfl
theorem cellsT:Tryz.prog.cellsOf 221=9:=by kernel_rfl
theorem cellsE:Tryz.prog.cellsOf 220=1:=by kernel_rfl
theorem zIB{x:Int}(h:(Lit.int .i64 x).wf=true): -9223372036854775808≤x∧x≤9223372036854775807:=by
 simp only [Lit.wf,Bool.and_eq_true,decide_eq_true_eq]at h;exact h
theorem table{W:World}(h:laidMetH Tryz.prog [("lapstone/num.bits",Rows.laid_lapstone_num_bits)] W):Lib.TabIs Tryz.prog W "lapstone/num.bits" .u64 [0,8,16,24,32,40,48,56,64]:=
 Lib.tabIs_of_head (rest:= []) gTab zH3 Tryz.underlying221 Tryz.underlying220 cellsE cellsT h
theorem bitsOk{W:World}(h:laidMetH Tryz.prog [("lapstone/num.bits",Rows.laid_lapstone_num_bits)] W):BitsOk W:=by
 intro i hi;have hc:=(table h).cell gTab i hi;rw [hc]
 match i,hi with
 |0,_|1,_|2,_|3,_|4,_|5,_|6,_|7,_|8,_=>rfl
noncomputable def z7R(os:Os):World:=
 {World.holding Tryz.prog os ⟨#[],#[],[]⟩with heap:=(World.holding Tryz.prog os ⟨#[],#[],[]⟩).heap.modify 0 fun
   | .cells _ t frozen=> .cells #[.int .u64 0,.int .u64 8,.int .u64 16,.int .u64 24,.int .u64 32,.int .u64 40,.int .u64 48,.int .u64 56,.int .u64 64] t frozen
   |o=>o}
end
section
open Go.ChangeShapes Go.WideShapes Go.ChangeAt Go.RowKit Go.Deep
section
variable {H:Type} {enc:TypeId×Value→H} {P:Program} {w:World} {base:Nat} {spare:Nat→Bool} {held:Bool}
theorem z3Q{t e:TypeId}{fs:Array Field}{fuel:Nat}{cs:List Value}{x:DataW H×List MemPlace}(ht:P.underlying t=some (.slice e))(he:P.underlying e=some (.struct fs))
 (hone:oneCellFields P fs=true) (hC:P.cellsOf e=fs.size) (h:DataW.trod enc P w base spare held fuel t cs=some x):
 (cs= [.slice none 0 0]∧x=(.nil,[]))∨
 ∃ (a:Addr) (len cap m:Nat) (D:Nat→DataW H) (Pl:Nat→List MemPlace),cs= [.slice (some a) len cap]∧base≤a.block∧len≤cap∧cap≤maxLen∧m=(if spare a.block then cap else len)∧
   x=(.slice ((List.range len).map D) ((List.range (m-len)).map fun j=>D (len+j)),MemPlace.row a (m*fs.size)++(List.range m).flatMap Pl)∧
   ∀i,i<m→∃ (ys:List (DataW H×List MemPlace)) (n:Nat),D i= .agg (ys.map (·.1))∧Pl i=ys.flatMap (·.2)∧ys.length=fs.size∧
    ∀ (j:Nat) (f:Field),fs[j]? =some f→∃ (v:Value) (y:DataW H×List MemPlace),w.cell? (a.add (i*fs.size+j))=some v∧ys[j]? =some y∧DataW.trod enc P w base spare held n f.type [v]=some y:=by
 rcases open_slice ht h with h0|⟨a,len,cap,m,n,D,Pl,hcs,hb,hl,hm,hmm,hx,hi⟩
 ·exact .inl h0
 ·refine .inr ⟨a,len,cap,m,D,Pl,hcs,hb,hl,hm,hmm,by rw [hC]at hx;exact hx,fun i him=> ?_⟩;obtain⟨cs',hc,ht'⟩:=hi i him;rw [hC]at hc;obtain⟨ys,n',hn',hy,hlen,hyl,hf⟩:=DataW.trod_struct he ht';obtain⟨_,hcl,hat⟩:=World.cells?_some hc;simp only [Prod.mk.injEq]at hy;refine⟨ys,n',hy.1,hy.2,hyl,fun j f hj=> ?_⟩;obtain⟨ho,hk⟩:=hone_of hone j f hj;have hjl:j<fs.size:=(Array.getElem?_eq_some_iff.1 hj).1;have hcell:=hat j hjl;have hv:cs'[j]? =some (cs'[j]'(by omega)):=List.getElem?_eq_getElem (by omega);have h1:=hf j f hj;rw [ho,hk]at h1;have hone':(cs'.drop j).take 1= [cs'[j]'(by omega)]:=by
   rw [List.drop_eq_getElem_cons (by omega)];rfl
  rw [hone']at h1;have hys:ys[j]? =some (ys[j]'(by omega)):=List.getElem?_eq_getElem (by omega);refine⟨_,_,?_,hys,h1.trans hys⟩;rw [←Go.Deep.add_add,hcell,hv]
end
section
variable {H:Type} {enc:TypeId×Value→H} {P:Program} {w:World} {base:Nat} {spare:Nat→Bool} {held:Bool}
end
end
end Go.Proofs.YthbhkdhljlganaaGreatDoor
