/- Part 22. -/
import Derived.Test.YthnlcbamjehpdaaGreatDoorViewCollectsJ18
import Derived.ReadAgain
import Derived.Below
import Derived.ChangeSame
import Derived.ChangeShapes
import Derived.Test.YthnlcbamjehpdaaGreatDoorRows
import Derived.ProofKit
import Derived.OpenShut
import Derived.ChangeMaps5
import Derived.Deep.DeepHandedRow
import Derived.Lib.LaidTab
import Derived.Lib.SmallJoins
import Derived.Deep.Slices
import Derived.Deep.Fields
namespace Go.Proofs.YthnlcbamjehpdaaGreatDoor
set_option linter.unusedVariables false
set_option maxHeartbeats 16000000
set_option maxRecDepth 100000
section
open Go Go.ChangeShapes Go.WideShapes Go.RowKit
section
variable {H:Type} {enc:TypeId×Value->H} {P:Program}
theorem z5P{w w':World}{base:Nat}{sp:Nat->Bool}{hd:Bool}:∀ {ts:List TypeId} {vs:List Value} {ds:List (DataW H)} {ps:List MemPlace},DataW.TrodAll enc P w base sp hd ts vs ds ps->(∀p∈ps,w.sameAt w' p)->DataW.TrodAll enc P w' base sp hd ts vs ds ps
 | [],[],[],_,h,_=>h
 |_::_,_::_,_::_,_,⟨p,q,⟨n,h1⟩,h2,e⟩,hs=>⟨p,q,⟨n,DataW.trod_carry n _ _ _ h1 (fun x hx=>hs x (by rw [e];exact yS _ hx))⟩,z5P h2 (fun x hx=>hs x (by rw [e];exact YO _ hx)),e⟩
theorem law_post{f:Func}{s:ChangeSpec}{W W':World}{args:Array Value}{v:Value}{ds gs:List (DataW H)}{before:List MemPlace}(K:Kids P (· <P.types.size))(hz:∀t e,t<P.types.size->P.underlying t=some (.slice e)->0<P.cellsOf e)
 (hT:∀t∈f.params.toList,t<P.types.size) (hvs:s.vars= []) (hW:DataW.Whole enc P f.params.toList s.vars false W args.toList ds gs before) (hb:Below W.heap.size W W')
 (hargs:(s.fn H (ds++gs)).args=ds) (hvars:(s.fn H (ds++gs)).vars= [])
 (hres:DataW.TrodAll enc P W' W.heap.size (fun _=>false) false f.resultTypes.toList (v.resultList f.resultTypes.size) (s.fn H (ds++gs)).results []):
 s.post enc P f false true false false W args v W':=by
 have hlt:∀p∈before,p.block<W.heap.size:=fun p hp=>hW.lt p hp
 have hW0:=hW;obtain⟨p,q,hA,hV,hpq,hfz,hnd⟩:=hW;have hold:∀x∈p,(fun b=>decide (b<W.heap.size)) x.block=true:=fun x hx=>by simpa using hlt x (by rw [hpq];exact yS _ hx)
 have hA1:=DataW.TrodAll.respare K hz (spare':=fun b=>decide (b<W.heap.size)) hT hA hold;have hA2:=z5P (w':=W') hA1 (fun x hx=>hb.same (hlt x (by rw [hpq];exact yS _ hx)));refine⟨ds,gs,before,[],p,[],hW0,hres,by rw [hargs];exact hA2,?_,hb.frame _,fun h=>by cases h⟩;rw [hvs,hvars];exact rfl
end
end
section
open Go.ChangeShapes Go.WideShapes Go.ChangeAt Go.RowKit
open Go.ChangeMaps (open_string shut_string)
theorem own:ownKnob Tryz.prog.godebug=none:=by kernel_rfl
theorem zJa:laidOutB Tryz.prog=true:=by kernel_rfl
theorem kids:Kids Tryz.prog (· <Tryz.prog.types.size):=kids_rows zJa (by kernel_rfl)
theorem full:∀t e,t<Tryz.prog.types.size->Tryz.prog.underlying t=some (.slice e)->0<Tryz.prog.cellsOf e:=slices_full_of _ (by kernel_rfl)
theorem gTab:Tryz.prog.globalNamed "lapstone/num.bits" =some 0:=by kernel_rfl
theorem zHV:(Tryz.prog.globals[0]?).map (·.type)=some 272:=by kernel_rfl
theorem cellsT:Tryz.prog.cellsOf 272=9:=by kernel_rfl
theorem cellsE:Tryz.prog.cellsOf 244=1:=by kernel_rfl
theorem zEU(s:ByteArray):s.data.toList.length=s.size:=rfl
theorem zGU{x:Int}(h:(Lit.int .u64 x).wf=true):∃y:Nat,x=(y:Int)/\y<U64:=by
 simp only [Lit.wf,Y9,yd]at h;have h0:IntKind.u64.min=0:=rfl;have h1:IntKind.u64.max=18446744073709551615:=rfl;refine⟨x.toNat,by omega,?_⟩;unfold U64;omega
theorem zCT{x:Int}(h:(Lit.int .i64 x).wf=true): -9223372036854775808<=x/\x<=9223372036854775807:=by
 simp only [Lit.wf,Y9,yd]at h;exact h
theorem zK7{s:ByteArray}(h:s.size<=maxLen):s.data.toList.length<=9223372036854775807:=by
 rw [zEU];simp only [maxLen]at h;omega
theorem table{W:World}(h:laidMetH Tryz.prog [("lapstone/num.bits",Rows.laid_lapstone_num_bits)] W):Lib.TabIs Tryz.prog W "lapstone/num.bits" .u64 [0,8,16,24,32,40,48,56,64]:=
 Lib.tabIs_of_head (rest:= []) gTab zHV Tryz.underlying272 Tryz.underlying244 cellsE cellsT h
theorem bitsOk{W:World}(h:laidMetH Tryz.prog [("lapstone/num.bits",Rows.laid_lapstone_num_bits)] W):BitsOk W:=by
 intro i hi;have hc:=(table h).cell gTab i hi;rw [hc]
 match i,hi with
 |0,_|1,_|2,_|3,_|4,_|5,_|6,_|7,_|8,_=>rfl
noncomputable def z73(os:Os):World:=
 {World.holding Tryz.prog os ⟨#[],#[],[]⟩with heap:=(World.holding Tryz.prog os ⟨#[],#[],[]⟩).heap.modify 0 fun
   | .cells _ t frozen=> .cells #[.int .u64 0,.int .u64 8,.int .u64 16,.int .u64 24,.int .u64 32,.int .u64 40,.int .u64 48,.int .u64 56,.int .u64 64] t frozen
   |o=>o}
end
section
open Go.ChangeShapes Go.WideShapes Go.ChangeAt Go.RowKit Go.Deep
section
variable {H:Type} {enc:TypeId×Value->H} {P:Program} {w:World} {base:Nat} {spare:Nat->Bool} {held:Bool}
theorem z28{t e:TypeId}{fs:Array Field}{fuel:Nat}{cs:List Value}{x:DataW H×List MemPlace}(ht:P.underlying t=some (.slice e))(he:P.underlying e=some (.struct fs))
 (hone:oneCellFields P fs=true) (hC:P.cellsOf e=fs.size) (h:DataW.trod enc P w base spare held fuel t cs=some x):
 (cs= [.slice none 0 0]/\x=(.nil,[]))∨
 ∃ (a:Addr) (len cap m:Nat) (D:Nat->DataW H) (Pl:Nat->List MemPlace),cs= [.slice (some a) len cap]/\base<=a.block/\len<=cap/\cap<=maxLen/\m=(if spare a.block then cap else len)/\
   x=(.slice ((List.range len).map D) ((List.range (m-len)).map fun j=>D (len+j)),MemPlace.row a (m*fs.size)++(List.range m).flatMap Pl)/\
   ∀i,i<m->∃ (ys:List (DataW H×List MemPlace)) (n:Nat),D i= .agg (ys.map (·.1))/\Pl i=ys.flatMap (·.2)/\ys.length=fs.size/\
    ∀ (j:Nat) (f:Field),fs[j]? =some f->∃ (v:Value) (y:DataW H×List MemPlace),w.cell? (a.add (i*fs.size+j))=some v/\ys[j]? =some y/\DataW.trod enc P w base spare held n f.type [v]=some y:=by
 rcases open_slice ht h with h0|⟨a,len,cap,m,n,D,Pl,hcs,hb,hl,hm,hmm,hx,hi⟩
 .exact .inl h0
 .refine .inr ⟨a,len,cap,m,D,Pl,hcs,hb,hl,hm,hmm,by rw [hC]at hx;exact hx,fun i him=> ?_⟩;obtain⟨cs',hc,ht'⟩:=hi i him;rw [hC]at hc;obtain⟨ys,n',hn',hy,hlen,hyl,hf⟩:=DataW.trod_struct he ht';obtain⟨_,hcl,hat⟩:=World.cells?_some hc;simp only [Ze]at hy;refine⟨ys,n',hy.1,hy.2,hyl,fun j f hj=> ?_⟩;obtain⟨ho,hk⟩:=hone_of hone j f hj;have hjl:j<fs.size:=(YM.1 hj).1;have hcell:=hat j hjl;have hv:cs'[j]? =some (cs'[j]'(by omega)):=yK (by omega);have h1:=hf j f hj;rw [ho,hk]at h1;have hone':(cs'.drop j).take 1= [cs'[j]'(by omega)]:=by
   rw [yL (by omega)];rfl
  rw [hone']at h1;have hys:ys[j]? =some (ys[j]'(by omega)):=yK (by omega);refine⟨_,_,?_,hys,h1.trans hys⟩;rw [<-Go.Deep.add_add,hcell,hv]
end
end
section
open Go Go.RowKit
end
section
open Go.ChangeShapes Go.WideShapes Go.ChangeAt Go.RowKit Go.Deep
section
variable {H:Type} {enc:TypeId×Value->H} {P:Program} {w:World} {base:Nat} {spare:Nat->Bool} {held:Bool}
theorem z5L{w:World}{a:Addr}{v:Value}(h:w.cell? a=some v):a=⟨a.block,a.off,none⟩/\a.block<w.heap.size:=by
 refine⟨?_,Yc w _ h⟩;obtain⟨ab,ao,asp⟩:=a;cases asp with
 |none=>rfl
 |some z=>
  unfold World.cell? at h
  split at h
  .simp at h
  .cases h
theorem zFZ{t e:TypeId}{f0 f1:Field}{v:Value}{fuel:Nat}{x:DataW H×List MemPlace}(ht:P.underlying t=some (.slice e))(he:P.underlying e=some (.struct #[f0,f1]))(hone:oneCellFields P #[f0,f1]=true)(hC:P.cellsOf e=2)
 (h0:P.underlying f0.type=some (.int .i64)) (h1:P.underlying f1.type=some (.int .i64)) (hf:DataW.trod enc P w base spare held fuel t [v]=some x):
 ∃l:List (Int×Int),(∀y∈l,InI y.1/\InI y.2)/\Sv (fun b=>b<w.heap.size) w v l:=by
 rcases z28 ht he hone (by simpa using hC) hf with⟨hc,_⟩|⟨a,len,cap,m,D,Pl,hcs,_,hl,hcm,hm,_,hi⟩
 .obtain rfl:v= .slice none 0 0:=by simpa using hc
  exact⟨[],by simp,Sl.nil⟩
 .have hlm:len<=m:=by rw [hm];split<;>omega
  have key:∀i,i<len->∃x y:Int,w.cell? (a.add (i*2))=some (.int .i64 x)/\w.cell? (a.add (i*2+1))=some (.int .i64 y)/\InI x/\InI y:=by
   intro i hil;obtain⟨ys,n,_,_,_,hfs⟩:=hi i (by omega);obtain⟨v0,y0,c0,_,t0⟩:=hfs 0 f0 rfl;obtain⟨v1,y1,c1,_,t1⟩:=hfs 1 f1 rfl;obtain⟨x,e0,_,b0⟩:=QB h0 t0;obtain⟨y,e1,_,b1⟩:=QB h1 t1;obtain rfl:v0=_:=by simpa using e0
   obtain rfl:v1=_:=by simpa using e1
   exact⟨x,y,by simpa using c0,by simpa using c1,zCT b0,zCT b1⟩
  obtain rfl:v= .slice (some a) len cap:=by simpa using hcs
  have hll:((List.range len).map fun i=>if h:i<len then((key i h).choose,(key i h).choose_spec.choose)else((0,0):Int×Int)).length=len:=by simp
  refine⟨(List.range len).map fun i=>if h:i<len then((key i h).choose,(key i h).choose_spec.choose)else(0,0),?_,?_⟩
  .intro y hy;obtain⟨i,hi',rfl⟩:=yP.1 hy;have hil:=yt.1 hi';simp only [hil,dite_true];have:=(key i hil).choose_spec.choose_spec;exact⟨this.2.2.1,this.2.2.2⟩
  .unfold Sv;rw [hll];refine⟨by rw [zFd,hll],some a,cap,rfl,hl,hcm,(fun h=>by cases h),fun hl0=> ?_⟩;obtain⟨x,y,hc0,_⟩:=key 0 hl0;obtain⟨ab,ao,asp⟩:=a;obtain⟨hsp,hblt⟩:=z5L hc0;simp [Addr.add]at hsp hblt;subst hsp;refine⟨ab,ao,rfl,hblt,fun j u hu=> ?_⟩;have hjl:j<len*2:=by
    have:=(yg.1 hu).1;rw [zFd,hll]at this;exact this
   have hq:j / 2<len:=by omega
   have hk:=(key (j / 2) hq).choose_spec.choose_spec;have hat:=zCc (l:=(List.range len).map fun i=>if h:i<len then((key i h).choose,(key i h).choose_spec.choose)else((0,0):Int×Int)) (j:=j / 2) (by rw [hll];exact hq);simp only [Z5,ZZ,hq,dite_true]at hat;have hmod:j=j / 2*2∨j=j / 2*2+1:=by omega
   rcases hmod with h|h
   .rw [h]at hu;rw [h];rw [hat.1]at hu;injection hu with hu
    subst hu;exact(congrArg (fun p=>w.cell? p) (z0U ab ao (j / 2*2))).symm.trans hk.1
   .rw [h]at hu;rw [h];rw [hat.2]at hu;injection hu with hu
    subst hu;exact(congrArg (fun p=>w.cell? p) (z0U ab ao (j / 2*2+1))).symm.trans hk.2.1
end
end
end Go.Proofs.YthnlcbamjehpdaaGreatDoor
