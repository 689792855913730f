/- Part 22. -/
import Derived.Test.YtdkobefpnjbgnaaGreatDoorMovePutsJ21
import Derived.ReadAgain
import Derived.Below
import Derived.ChangeSame
import Derived.ChangeShapes
import Derived.Test.YtdkobefpnjbgnaaGreatDoorRows
import Derived.ProofKit
import Derived.OpenShut
import Derived.ChangeMaps5
import Derived.Deep.DeepHandedRow
import Derived.Lib.LaidTab
import Derived.Lib.SmallJoins
import Derived.Deep.Slices
import Derived.Deep.Fields
namespace Go.Proofs.YtdkobefpnjbgnaaGreatDoor
set_option linter.unusedVariables false
set_option maxHeartbeats 16000000
set_option maxRecDepth 100000
section
open Go Go.RowKit
theorem zH9:(⟨#[]⟩:ByteArray)=st []:=rfl
theorem z3q(x:Nat)(w:World)(hx:x<U64):
 Calls Tryz.prog 44 #[.int .u64 x] w fun e w'=>e= .returned (.string (st (z0A x)))∧Below w.heap.size w w':=by
 have h10:=z06 hx;have he:Hid ((⟨#[]⟩:ByteArray)=st []):=zH9;go_enter Tryz.func44,Tryz.ntmps44
 go_wp2_with fail
 rw [he.out];go_loopw [0,3] (fun xv sv wr=>∃y d,xv= .int .u64 ((y:Nat):Int)∧sv= .string (st d)∧y<U64∧Hid (d++z0A y=z0A x)∧d.length<(z0A x).length∧Below w.heap.size w wr) (fun xv _ _=>(intOf xv).toNat)
 case atStart=>exact⟨x,[],rfl,rfl,hx,by simp [Hid],z1G x,Below.refl _ _⟩
 case round=>
  obtain⟨y,d,rfl,rfl,hy,hd,hdl,hbl⟩:=hrel;have hsz:=hbl.size;have hq:=z0l (n:=(y:Int) / 128) (by omega) (by omega);by_cases h:y<128
  ·have hz:(y:Int) / 128≤0:=by omega
   have hcv:=conv1 (P:=Tryz.prog) tB tU tS wr (y:Int) (UInt8.ofNat y) (by omega) (by omega) (by simp;omega);go_wp2_with fail
   go_ret
   exact⟨by rw [←hd.out,z1e h];rfl,hbl.alloc hsz _⟩
  ·have hz:¬ (y:Int) / 128≤0:=by omega
   obtain⟨q,hq⟩:∃q,q=UInt8.ofNat (y%128+128):=⟨_,rfl⟩;have hcv:=conv1 (P:=Tryz.prog) tB tU tS wr ((y:Int)%128+128) q (by omega) (by omega) (by rw [hq];simp;omega);have hw:IntKind.u8.wrap ((y:Int)%128+128)=(y:Int)%128+128:=by rw [IntKind.wrap_u8'];omega
   have hd':=hd.out;rw [z5L h,←hq]at hd';have HD:Hid ((d++ [q])++z0A (y / 128)=z0A x):=by rw [List.append_assoc];exact hd'
   have hlen:(d++ [q]).length<(z0A x).length:=by rw [←HD.out];have:=z1G (y / 128);simp;omega
   clear hd' hq;go_wp2_with fail
   go_roundw
   case rel=>exact⟨y / 128,_,by go_num,rfl,by omega,HD,hlen,hbl.alloc hsz _⟩
   case measure=>simp [intOf];omega
def numV(l:List UInt8):Nat×List UInt8×Nat:=match z0S l with
 | .error er=>(0,l,z8d er)
 | .ok (x,n)=>(x,l.drop n,0)
theorem zJG(l:List UInt8):(numV l).1<U64∧(numV l).2.1.length≤l.length∧(numV l).2.2≤1000:=by
 unfold numV;cases h:z0S l with
 |error er=>exact⟨by show(0:Nat)<U64;unfold U64;decide,Nat.le_refl _,(z3v h).1⟩
 |ok xn=>obtain⟨x,n⟩:=xn;exact⟨(z1X h).1,by simp,by simp⟩
theorem z6z(s:List UInt8)(w:World)(hl:s.length≤1099511627776):
 Calls Tryz.prog 45 #[.string (st s)] w fun e w'=>e= .returned (.string (st (z0Q s)))∧Below w.heap.size w w':=by
 have hwr:IntKind.u64.wrap (s.length:Int)=(s.length:Int):=z0l (by omega) (by unfold U64;omega);have h64:s.length<U64:=by unfold U64;omega
 have hv:=z06 h64;go_enter Tryz.func45,Tryz.ntmps45
 go_wp2_with fail
 refine(z3q s.length w h64).mono ?_;rintro e w1 ⟨rfl,hbl⟩;go_wp2_with fail
 go_ret
 exact⟨rfl,hbl⟩
theorem zI4{rs:List (Nat×List UInt8)}{j:Nat}(h:j<rs.length):(rcs rs)[j*2]? =some (.int .u64 (rs[j].1:Int))∧(rcs rs)[j*2+1]? =some (.string (st rs[j].2)):=by
 induction rs generalizing j with
 |nil=>simp at h
 |cons r rs ih=>
  rcases j with _|j
  ·simp [rcs]
  ·have:=ih (j:=j) (by simpa using h);simp only [rcs,List.flatMap_cons]at this ⊢;rw [show(j+1)*2=j*2+1+1 by omega];simpa using this
theorem zDA{D:Dsk}(hok:D.Ok){a:Int}{size i q:Nat}{rs:List Rcd}(hs:size≤64)(h:z3K D.view a size i=some (q,rs)):rs.length≤40000:=by
 have hl:=z5S hok size (a+(i:Int)*size);unfold z3K z7V at h
 split at h
 ·split at h
  ·injection h with h
   injection h with _ h
   subst h;refine Nat.le_trans (z3E _ _ _) ?_;rw [List.length_drop];omega
  ·cases h
 ·cases h
theorem ChSt.fin{all:List Fd}{frm n:Nat}(hall:∀y∈all,y.at'<n∧y.recs.length≤40000):∀ (m:Nat) {live:List Sg} {last:Nat} {out:List Rcd} {nx:Option Fd},ChSt all frm n live last out nx→live.length+m=n+1→
 ∃live' last' out',z4B all frm (n+1) [] frm [] (z1z frm all none)=(live',last',out')∧(live'.map (·.at')).Nodup∧(∀s∈live',s.at'<n)∧last'<U64∧out'.length≤n*40000
 |0,live,last,out,nx,s,hm=>by have:=s.len;omega
 |m+1,live,last,out,none,s,hm=>⟨live,last,out,s.end,s.nd,s.lt,s.last,Nat.le_trans s.out (Nat.mul_le_mul_right _ s.len)⟩
 |m+1,live,last,out,some x,s,hm=>ChSt.fin hall m (s.next hall) (by rw [List.length_append,List.length_singleton];omega)
section
variable {D:Dsk} {a:Int} {n size frm:Nat}
theorem zEN(hok:D.Ok)(hs:size≤64)(hf:frm<U64):∃live last out,z4B (zCG D.view a size n) frm (n+1) [] frm [] (z1z frm (zCG D.view a size n) none)=(live,last,out)∧(live.map (·.at')).Nodup∧(∀s∈live,s.at'<n)∧last<U64∧out.length≤n*40000:=
 ChSt.fin (fun y hy=>⟨(z4s hy).1,zDA hok hs (z4s hy).2⟩) (n+1) (ChSt.start hf) (by simp)
theorem zJW(D:Dsk)(a:Int)(n size frm:Nat):(z1I D a n size frm).1.a=a∧(z1I D a n size frm).1.n=n∧(z1I D a n size frm).1.size=size∧(z1I D a n size frm).1.stream= []:=⟨rfl,rfl,rfl,rfl⟩
theorem zHm(hok:D.Ok)(hn2:2≤n)(hn:n≤64)(hs1:1≤size)(hs:size≤64)(h0:0≤a)(h1:a+(n:Int)*size≤65536)(hf:frm<U64):(z1I D a n size frm).1.Ok:=by
 obtain⟨live,last,out,e,h2,h3,h4,_⟩:=zEN (D:=D) (a:=a) (n:=n) hok hs hf;have hD:=ow_D e;have hl:=zBL e;have hy:=z6H e;have hv:=zAO e;have hm:max last frm<U64:=by omega
 refine⟨by rw [hD];exact(z2M hok a size live n).sync,hn2,hn,hs1,hs,h0,h1,by rw [hl];exact hm,by rw [hy];exact hm,by rw [hv];exact h2,by rw [hv];exact h3,fun h=>(h rfl).elim,Nat.zero_le _⟩
end
theorem Wl.Ok.append{l:Wl}(ok:l.Ok)(t:List UInt8):(z0P l t).1.Ok:=by
 obtain⟨q,hq⟩:∃q,q=(l.last+1)%U64:=⟨_,rfl⟩;have hqU:q<U64:=by rw [hq];exact Nat.mod_lt _ (by unfold U64;omega)
 obtain⟨head,hh⟩:∃head,head=z6u q titleB:=⟨_,rfl⟩;obtain⟨b,hb⟩:∃b,b=z6u q t:=⟨_,rfl⟩;by_cases hlong:32768<t.length∨512*l.size<head.length+b.length
 ·rw [z2W hq hh hb hlong];exact ok
 have key:∀ {L:List Sg} {s:List UInt8} {i:Nat} {fr:Bool},ApC l q head b L s i fr→(z0P l t).1.Ok:=by
  intro L s i fr c;obtain⟨r,hr⟩:∃r,z3y l.D (l.a+(i:Int)*l.size) (s++b) (s++b).length (z1L l fr / 512)=r:=⟨_,rfl⟩;have hD:r.1.Ok:=by rw [←hr];exact zAn _ _ _ _ ok.dok
  by_cases h0:r.2=0
  ·rw [z40 hq hh hb hlong c hr h0];exact c.ok ok hqU hlong hD
  ·rw [z5V hq hh hb hlong c hr h0];cases fr with
   |true=>exact(ok.drop (z4v hD _ _)).sync
   |false=>exact ok.drop hD
 by_cases hfr:l.stream= []∨512*l.size<l.stream.length+b.length
 ·cases hw:z3Q l.live l.n with
  |none=>rw [z3U hq hh hb hlong hfr hw];exact ok
  |some i=>exact key (L:=l.live++ [⟨i,q,0⟩]) (s:=head) (i:=i) (fr:=true) ⟨fun _=>⟨hfr,hw,rfl,rfl⟩,fun e=>(by cases e)⟩
 ·exact key (L:=l.live) (s:=l.stream) (fr:=false) ⟨fun e=>(by cases e),fun _=>⟨hfr,rfl,rfl,rfl⟩⟩
section
variable {w W W':World} {gl:Nat} {h h':Zn} {l:Wl} {D:Dsk}
end
theorem z9m{f:SF}{a:Int}{size:Nat}(hf:∀x,f x=none):∀n,zCG f a size n= []
 |0=>rfl
 |n+1=>by
  rw [z2v,z9m hf n,List.nil_append];refine z7y ?_;unfold z3K;have:z1Z f (a+(n:Int)*size) size= []:=by
   cases size with
   |zero=>rfl
   |succ s=>exact z6T (hf _)
  rw [this];unfold z7V;rw [zCx]
theorem z7j{D:Dsk}(hf:∀x,D.view x=none)(p:Int):∀n,z4t D p n=D
 |0=>rfl
 |n+1=>by
  rw [z4t,z7j hf p n];unfold Dsk.free;rw [hf];rfl
theorem z4m{D:Dsk}(hf:∀x,D.view x=none)(a:Int)(size:Nat)(live:List Sg):∀n,z0c D a size live n=D
 |0=>rfl
 |n+1=>by
  rw [z0c,z4m hf a size live n]
  split
  ·rfl
  ·exact z7j hf _ _
theorem zCf{D:Dsk}(hf:∀x,D.view x=none)(a:Int)(n size frm:Nat):z1I D a n size frm=({D:=D.sync,a:=a,n:=n,size:=size,live:= [],stream:= [],last:=frm,synced:=frm},[]):=by
 unfold z1I;rw [z9m hf n];show(Wl.sync _,_)=_;simp only [z1z,z4B,z4m hf,Wl.sync,Nat.max_self]
end
section
open Go Go.ChangeShapes Go.WideShapes Go.RowKit
section
variable {H:Type} {enc:TypeId×Value→H} {P:Program}
theorem z55{w w':World}{base:Nat}{sp:Nat→Bool}{hd:Bool}:∀ {ts:List TypeId} {vs:List Value} {ds:List (DataW H)} {ps:List MemPlace},DataW.TrodAll enc P w base sp hd ts vs ds ps→(∀p∈ps,w.sameAt w' p)→DataW.TrodAll enc P w' base sp hd ts vs ds ps
 | [],[],[],_,h,_=>h
 |_::_,_::_,_::_,_,⟨p,q,⟨n,h1⟩,h2,e⟩,hs=>⟨p,q,⟨n,DataW.trod_carry n _ _ _ h1 (fun x hx=>hs x (by rw [e];exact List.mem_append_left _ hx))⟩,z55 h2 (fun x hx=>hs x (by rw [e];exact List.mem_append_right _ hx)),e⟩
theorem law_post{f:Func}{s:ChangeSpec}{W W':World}{args:Array Value}{v:Value}{ds gs:List (DataW H)}{before:List MemPlace}(K:Kids P (· <P.types.size))(hz:∀t e,t<P.types.size→P.underlying t=some (.slice e)→0<P.cellsOf e)
 (hT:∀t∈f.params.toList,t<P.types.size) (hvs:s.vars= []) (hW:DataW.Whole enc P f.params.toList s.vars false W args.toList ds gs before) (hb:Below W.heap.size W W')
 (hargs:(s.fn H (ds++gs)).args=ds) (hvars:(s.fn H (ds++gs)).vars= [])
 (hres:DataW.TrodAll enc P W' W.heap.size (fun _=>false) false f.resultTypes.toList (v.resultList f.resultTypes.size) (s.fn H (ds++gs)).results []):
 s.post enc P f false true false false W args v W':=by
 have hlt:∀p∈before,p.block<W.heap.size:=fun p hp=>hW.lt p hp
 have hW0:=hW;obtain⟨p,q,hA,hV,hpq,hfz,hnd⟩:=hW;have hold:∀x∈p,(fun b=>decide (b<W.heap.size)) x.block=true:=fun x hx=>by simpa using hlt x (by rw [hpq];exact List.mem_append_left _ hx)
 have hA1:=DataW.TrodAll.respare K hz (spare':=fun b=>decide (b<W.heap.size)) hT hA hold;have hA2:=z55 (w':=W') hA1 (fun x hx=>hb.same (hlt x (by rw [hpq];exact List.mem_append_left _ hx)));refine⟨ds,gs,before,[],p,[],hW0,hres,by rw [hargs];exact hA2,?_,hb.frame _,fun h=>by cases h⟩;rw [hvs,hvars];exact rfl
end
end
section
open Go.ChangeShapes Go.WideShapes Go.ChangeAt Go.RowKit
open Go.ChangeMaps (open_string shut_string)
theorem own:ownKnob Tryz.prog.godebug=none:=by kernel_rfl
theorem zJM:laidOutB Tryz.prog=true:=by kernel_rfl
theorem kids:Kids Tryz.prog (· <Tryz.prog.types.size):=kids_rows zJM (by kernel_rfl)
theorem full:∀t e,t<Tryz.prog.types.size→Tryz.prog.underlying t=some (.slice e)→0<Tryz.prog.cellsOf e:=slices_full_of _ (by kernel_rfl)
theorem gTab:Tryz.prog.globalNamed "lapstone/num.bits" =some 0:=by kernel_rfl
theorem zGK:(Tryz.prog.globals[0]?).map (·.type)=some 277:=by kernel_rfl
theorem cellsT:Tryz.prog.cellsOf 277=9:=by kernel_rfl
theorem cellsE:Tryz.prog.cellsOf 200=1:=by kernel_rfl
theorem zIx{x:Int}(h:(Lit.int .u64 x).wf=true):∃y:Nat,x=(y:Int)∧y<U64:=by
 simp only [Lit.wf,Bool.and_eq_true,decide_eq_true_eq]at h;have h0:IntKind.u64.min=0:=rfl;have h1:IntKind.u64.max=18446744073709551615:=rfl;refine⟨x.toNat,by omega,?_⟩;unfold U64;omega
theorem table{W:World}(h:laidMetH Tryz.prog [("lapstone/num.bits",Rows.laid_lapstone_num_bits)] W):Lib.TabIs Tryz.prog W "lapstone/num.bits" .u64 [0,8,16,24,32,40,48,56,64]:=
 Lib.tabIs_of_head (rest:= []) gTab zGK Tryz.underlying277 Tryz.underlying200 cellsE cellsT h
theorem bitsOk{W:World}(h:laidMetH Tryz.prog [("lapstone/num.bits",Rows.laid_lapstone_num_bits)] W):BitsOk W:=by
 intro i hi;have hc:=(table h).cell gTab i hi;rw [hc]
 match i,hi with
 |0,_|1,_|2,_|3,_|4,_|5,_|6,_|7,_|8,_=>rfl
noncomputable def z6X(os:Os):World:=
 {World.holding Tryz.prog os ⟨#[],#[],[]⟩with heap:=(World.holding Tryz.prog os ⟨#[],#[],[]⟩).heap.modify 0 fun
   | .cells _ t frozen=> .cells #[.int .u64 0,.int .u64 8,.int .u64 16,.int .u64 24,.int .u64 32,.int .u64 40,.int .u64 48,.int .u64 56,.int .u64 64] t frozen
   |o=>o}
end
section
open Go.ChangeShapes Go.WideShapes Go.ChangeAt Go.RowKit Go.Deep
section
variable {H:Type} {enc:TypeId×Value→H} {P:Program} {w:World} {base:Nat} {spare:Nat→Bool} {held:Bool}
theorem z2p{t e:TypeId}{fs:Array Field}{fuel:Nat}{cs:List Value}{x:DataW H×List MemPlace}(ht:P.underlying t=some (.slice e))(he:P.underlying e=some (.struct fs))
 (hone:oneCellFields P fs=true) (hC:P.cellsOf e=fs.size) (h:DataW.trod enc P w base spare held fuel t cs=some x):
 (cs= [.slice none 0 0]∧x=(.nil,[]))∨
 ∃ (a:Addr) (len cap m:Nat) (D:Nat→DataW H) (Pl:Nat→List MemPlace),cs= [.slice (some a) len cap]∧base≤a.block∧len≤cap∧cap≤maxLen∧m=(if spare a.block then cap else len)∧
   x=(.slice ((List.range len).map D) ((List.range (m-len)).map fun j=>D (len+j)),MemPlace.row a (m*fs.size)++(List.range m).flatMap Pl)∧
   ∀i,i<m→∃ (ys:List (DataW H×List MemPlace)) (n:Nat),D i= .agg (ys.map (·.1))∧Pl i=ys.flatMap (·.2)∧ys.length=fs.size∧
    ∀ (j:Nat) (f:Field),fs[j]? =some f→∃ (v:Value) (y:DataW H×List MemPlace),w.cell? (a.add (i*fs.size+j))=some v∧ys[j]? =some y∧DataW.trod enc P w base spare held n f.type [v]=some y:=by
 rcases open_slice ht h with h0|⟨a,len,cap,m,n,D,Pl,hcs,hb,hl,hm,hmm,hx,hi⟩
 ·exact .inl h0
 ·refine .inr ⟨a,len,cap,m,D,Pl,hcs,hb,hl,hm,hmm,by rw [hC]at hx;exact hx,fun i him=> ?_⟩;obtain⟨cs',hc,ht'⟩:=hi i him;rw [hC]at hc;obtain⟨ys,n',hn',hy,hlen,hyl,hf⟩:=DataW.trod_struct he ht';obtain⟨_,hcl,hat⟩:=World.cells?_some hc;simp only [Prod.mk.injEq]at hy;refine⟨ys,n',hy.1,hy.2,hyl,fun j f hj=> ?_⟩;obtain⟨ho,hk⟩:=hone_of hone j f hj;have hjl:j<fs.size:=(Array.getElem?_eq_some_iff.1 hj).1;have hcell:=hat j hjl;have hv:cs'[j]? =some (cs'[j]'(by omega)):=List.getElem?_eq_getElem (by omega);have h1:=hf j f hj;rw [ho,hk]at h1;have hone':(cs'.drop j).take 1= [cs'[j]'(by omega)]:=by
   rw [List.drop_eq_getElem_cons (by omega)];rfl
  rw [hone']at h1;have hys:ys[j]? =some (ys[j]'(by omega)):=List.getElem?_eq_getElem (by omega);refine⟨_,_,?_,hys,h1.trans hys⟩;rw [←Go.Deep.add_add,hcell,hv]
end
section
variable {H:Type} {enc:TypeId×Value→H} {P:Program} {w:World} {base:Nat} {spare:Nat→Bool} {held:Bool}
end
end
end Go.Proofs.YtdkobefpnjbgnaaGreatDoor
