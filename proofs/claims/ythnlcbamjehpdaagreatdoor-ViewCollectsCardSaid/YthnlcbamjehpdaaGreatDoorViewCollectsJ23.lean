/- Part 23. -/
import Derived.Test.YthnlcbamjehpdaaGreatDoorViewCollectsJ10
namespace Go.Proofs.YthnlcbamjehpdaaGreatDoor
set_option linter.unusedVariables false
set_option maxHeartbeats 16000000
set_option maxRecDepth 100000
section
open Go
abbrev Pag:=Bool×Nat×List Cel
abbrev PF:=Int->Option Pag
def noPg:Pag:=(false,0,[])
def pgB(x:Pag):List UInt8:=if z1I (x.2.1:Int) x.2.2=0 then z7Y (pgF x.1 (x.2.1:Int) x.2.2)else []
def szP(x:Pag):Nat:=z2v (x.2.1:Int) x.2.2
def cellAt(cs:List Cel)(i:Nat):Cel:=cs[i]?.getD ([],[])
def Pgr.pg(P:Pgr)(c:Int->List UInt8):PF:=fun i=>(P.page c i).bind z3O
def Pgr.pgD(P:Pgr)(c:Int->List UInt8)(i:Int):Pag:=(P.pg c i).getD noPg
def Pgr.wp(P:Pgr)(i:Int)(x:Pag):Pgr:=P.write i (pgB x)
def Pgr.al(P:Pgr)(x:Pag):Pgr×Nat:=((P.alloc (pgB x)).1,(P.alloc (pgB x)).2.1)
def z0F(v:List UInt8):Int:=match z0o v with
 | .ok (x,_)=>if x=0∨90<=x then-1 else(x:Int)
 | .error _=> -1
structure Und where
 id:Int
 depth:Nat
 from_:List UInt8
 to_:List UInt8
 open_:Bool
def fitCel(u:Und)(leaf:Bool)(c:Cel):Bool:=
 !(Op.bytesLess c.1 u.from_)&&(u.open_||Op.bytesLess c.1 u.to_)&&(leaf||(decide (0<=z0F c.2)&&decide (z0C (z0F c.2).toNat=c.2)))
def z99(u:Und)(x:Pag):Bool:=
 if(0<u.id/\x.2.2= [])∨(x.1=false/\u.id=0/\x.2.2.length<2)∨(x.1=false/\x.2.1≠0)then false
 else match x.2.2 with
  | []=>true
  |c::r=>(x.1||decide (c.1=u.from_))&&(c::r).all (fitCel u x.1)
def zJX(u:Und):List Cel->List Und
 | []=> []
 | [c]=> [⟨z0F c.2,u.depth+1,c.1,u.to_,u.open_⟩]
 |c::d::r=>⟨z0F c.2,u.depth+1,c.1,d.1,false⟩::zJX u (d::r)
structure ChT where
 leaves:List (Int×Pag)
 seen:List Int
 depth:Nat
def z25(pf:PF):Nat->List Und->ChT->Option ChT
 |_,[],s=>some s
 |0,_::_,_=>none
 |k+1,u::todo,s=>match pf u.id with
  |none=>none
  |some x=>
   if s.seen.contains u.id|| !z99 u x then none
   else if x.1 then
    if s.leaves≠ []/\s.depth≠u.depth then none
    else z25 pf k todo ⟨s.leaves++ [(u.id,x)],u.id::s.seen,u.depth⟩
   else z25 pf k (zJX u x.2.2++todo) ⟨s.leaves,u.id::s.seen,s.depth⟩
def z2d:List (Int×Pag)->Bool
 | []=>true
 | [(_,x)]=>decide (x.2.1=0)
 |(_,x)::(i,y)::r=>decide ((x.2.1:Int)=i)&&z2d ((i,y)::r)
def zGX:Und:=⟨0,0,[],[],true⟩
def zHI(pf:PF)(n:Nat):Bool:=match z25 pf 91 [zGX] ⟨[],[],0⟩with
 |none=>false
 |some s=>z2d s.leaves&&decide (s.seen.length=n)
structure TStp where
 id:Int
 at_:Nat
 pg:Pag
def z23(cs:List Cel)(k:List UInt8):Nat:=if isK cs k then z05 cs k else z05 cs k-1
def z3E(pf:Int->Pag)(k:List UInt8):Nat->Int->Option (List TStp)
 |0,_=>none
 |n+1,i=>if(pf i).1=true∨(pf i).2.2= []then some [⟨i,0,pf i⟩]
  else(z3E pf k n (z0F (cellAt (pf i).2.2 (z23 (pf i).2.2 k)).2)).map (⟨i,z23 (pf i).2.2 k,pf i⟩:: ·)
theorem z2r{pf:Int->Pag}{k:List UInt8}:∀ {n m:Nat} {i:Int} {l:List TStp},z3E pf k n i=some l->n<=m->z3E pf k m i=some l
 |0,_,_,_,h,_=>by cases h
 |n+1,0,_,_,_,hm=>by omega
 |n+1,m+1,i,l,h,hm=>by
  rw [z3E]at h ⊢
  split at h
  .rename_i hc;rw [yB hc];exact h
  .rename_i hc;rw [yA hc];rw [YR]at h ⊢;obtain⟨l',h1,h2⟩:=h;exact⟨l',z2r h1 (by omega),h2⟩
theorem zGp{pf:Int->Pag}{k:List UInt8}{n m:Nat}{i:Int}{l l':List TStp}(h:z3E pf k n i=some l)(h':z3E pf k m i=some l'):l=l':=by
 have h1:=z2r h (Nat.le_max_left n m);have h2:=z2r h' (Nat.le_max_right n m);rw [h1]at h2;exact YF h2
theorem zKJ{pf:Int->Pag}{k:List UInt8}{n:Nat}{i:Int}{l:List TStp}(h:z3E pf k n i=some l):l≠ []:=by
 rcases n with _|n
 .cases h
 .rw [z3E]at h
  split at h
  .cases h;simp
  .rw [YR]at h;obtain⟨l',_,rfl⟩:=h;simp
def depF(pf:Int->Pag):Nat:=((z3E pf [] 100 0).getD []).length
noncomputable def z0c(cs:List Cel):Nat:=Classical.epsilon (HalfAt cs)
theorem z9B{cs:List Cel}{k:Nat}(h:HalfAt cs k):z0c cs=k:=(QC (p:=HalfAt cs) ⟨k,h⟩).only h
noncomputable def zB0(x:Pag):Pag:=(x.1,x.2.1,x.2.2.take (z0c x.2.2))
noncomputable def zBk(x:Pag):Pag:=(x.1,x.2.1,x.2.2.drop (z0c x.2.2))
noncomputable def z9e(x:Pag):Pag:=(x.1,if x.1 then x.2.1 else 0,x.2.2.drop (z0c x.2.2))
def z4b(x:Pag)(leaf:Bool)(n:Nat):Pag:=(x.1,if leaf then n else x.2.1,x.2.2)
def z15(x:Pag)(c:Cel):Pag:=(x.1,x.2.1,putC x.2.2 c)
def z40(x:Pag)(k:List UInt8):Pag:=(x.1,x.2.1,delC x.2.2 k)
noncomputable def z9T(P:Pgr)(x:Pag):Pgr:=
 (((P.al (zBk x)).1.al (z4b (zB0 x) x.1 (P.al (zBk x)).2)).1).wp 0
   (false,0,[([],z0C (((P.al (zBk x)).1.al (z4b (zB0 x) x.1 (P.al (zBk x)).2)).2)),((cellAt (zBk x).2.2 0).1,z0C (P.al (zBk x)).2)])
noncomputable def z1t(P:Pgr)(id:Int)(x:Pag)(s:TStp):Pgr×Pag:=
 ((P.al (z9e x)).1.wp id (z4b (zB0 x) x.1 (P.al (z9e x)).2),z15 s.pg ((cellAt (z9e x).2.2 0).1,z0C (P.al (z9e x)).2))
noncomputable def upP:Pgr->List TStp->Int->Pag->Pgr
 |P,[],id,x=>if szP x<=2048 then P.wp id x else if id=0 then z9T P x else P
 |P,s::r,id,x=>if szP x<=2048 then P.wp id x else if id=0 then z9T P x else upP (z1t P id x s).1 r s.id (z1t P id x s).2
noncomputable def putT(P:Pgr)(l:List TStp)(c:Cel):Pgr×Nat:=
 if 240<c.1.length then(P,100)
 else match l.reverse with
  | []=>(P,0)
  |s::r=>if 480<c.1.length+c.2.length then(P,100)
   else if 90<P.pages.length+(l.length+2)then(P,141)
   else(upP P r s.id (z15 s.pg c),0)
def lvA(s:TStp):Int:=z0F (cellAt s.pg.2.2 (s.at_-1)).2
def lvB(s:TStp):Int:=z0F (cellAt s.pg.2.2 (s.at_-1+1)).2
def lvK(s:TStp):List UInt8:=(cellAt s.pg.2.2 (s.at_-1+1)).1
def z9b(x:Pag)(k:List UInt8):Pag:=(x.1,x.2.1,x.2.2.set 0 (k,(cellAt x.2.2 0).2))
def lvL(pf:Int->Pag)(s:TStp)(x:Pag):Pag:=if s.at_=0 then x else pf (lvA s)
def zFQ(pf:Int->Pag)(s:TStp)(x:Pag):Pag:=if s.at_=0 then pf (lvB s)else x
def lvR(pf:Int->Pag)(s:TStp)(x:Pag):Pag:=if x.1 then zFQ pf s x else z9b (zFQ pf s x) (lvK s)
def zJV(a b:Pag):Pag:=(a.1,b.2.1,a.2.2++b.2.2)
def z7v(pf:Int->Pag)(s:TStp)(x:Pag):Pag:=zJV (lvL pf s x) (lvR pf s x)
noncomputable def zDd(pf:Int->Pag)(s:TStp)(x:Pag):Pag:=z15 (z40 s.pg (lvK s)) ((cellAt (zBk (z7v pf s x)).2.2 0).1,z0C (lvB s).toNat)
noncomputable def z78(P:Pgr)(pf:Int->Pag)(s:TStp)(x:Pag):Prop:=2048<szP (zDd pf s x)/\90<P.pages.length+(depF pf+2)/\(x.1=true∨1<x.2.2.length)
open Classical in
noncomputable def z0e(P:Pgr)(c:Int->List UInt8)(s:TStp)(id:Int)(x:Pag):Pgr×Pag:=
 if szP (z7v (P.pgD c) s x)<=2048 then((P.wp (lvA s) (z7v (P.pgD c) s x)).free (lvB s),z40 s.pg (lvK s))
 else if z78 P (P.pgD c) s x then(P.wp id x,s.pg)
 else((P.wp (lvA s) (z4b (zB0 (z7v (P.pgD c) s x)) x.1 (lvB s).toNat)).wp (lvB s) (zBk (z7v (P.pgD c) s x)),zDd (P.pgD c) s x)
def finP(P:Pgr)(c:Int->List UInt8)(id:Int)(x:Pag):Pgr:=
 if id=0/\x.1=false/\x.2.2.length=1 then(P.free (z0F (cellAt x.2.2 0).2)).wp id (P.pgD c (z0F (cellAt x.2.2 0).2))else P.wp id x
noncomputable def z2t(c:Int->List UInt8):Pgr->List TStp->Int->Pag->Pgr
 |P,[],id,x=>finP P c id x
 |P,s::r,id,x=>if szP x<512 then
    if 2048<szP (z0e P c s id x).2 then upP (z0e P c s id x).1 r s.id (z0e P c s id x).2
    else z2t c (z0e P c s id x).1 r s.id (z0e P c s id x).2
  else finP P c id x
noncomputable def deleteT(P:Pgr)(c:Int->List UInt8)(l:List TStp)(k:List UInt8):Pgr×Nat:=match l.reverse with
 | []=>(P,0)
 |s::r=>if isK s.pg.2.2 k then(z2t c P r s.id (z40 s.pg k),0)else(P,140)
def z0r(pf:Int->Pag):Nat->Pag->Option (List Cel)
 |0,_=>none
 |n+1,x=>if x.2.1=0 then some x.2.2 else(z0r pf n (pf (x.2.1:Int))).map (x.2.2++ ·)
abbrev Key:=List UInt8
@[reducible] def Ct:Nat->Type
  |0=>Nat×List Cel
  |j+1=>List (Key×(Nat×Ct j))
abbrev Kid(j:Nat):=Key×(Nat×Ct j)
def z0E{j:Nat}(ks:List (Kid j)):List Cel:=ks.map fun k=>(k.1,z0C k.2.1)
def Ct.page:(j:Nat)->Ct j->Pag
 |0,c=>(true,c.1,c.2)
 |_+1,ks=>(false,0,z0E ks)
def Ct.subs:(j:Nat)->Ct j->List (Nat×Pag)
 |0,_=> []
 |j+1,ks=>List.flatMap (fun k:Kid j=>(k.2.1,Ct.page j k.2.2)::Ct.subs j k.2.2) ks
def Ct.cells:(j:Nat)->Ct j->List Cel
 |0,c=>c.2
 |j+1,ks=>List.flatMap (fun k:Kid j=>Ct.cells j k.2.2) ks
def Ct.lvs:(j:Nat)->Nat->Ct j->List (Nat×Nat)
 |0,i,c=> [(i,c.1)]
 |j+1,_,ks=>List.flatMap (fun k:Kid j=>Ct.lvs j k.2.1 k.2.2) ks
def z0B{j:Nat}(ks:List (Kid j)):List (Nat×Pag):=List.flatMap (fun k:Kid j=>(k.2.1,Ct.page j k.2.2)::Ct.subs j k.2.2) ks
def z0d{j:Nat}(ks:List (Kid j)):List Cel:=List.flatMap (fun k:Kid j=>Ct.cells j k.2.2) ks
def z4x{j:Nat}(ks:List (Kid j)):List (Nat×Nat):=List.flatMap (fun k:Kid j=>Ct.lvs j k.2.1 k.2.2) ks
theorem zAi(c:Ct 0):Ct.subs 0 c= []:=rfl
section
variable {j:Nat} (l r:List (Kid j)) (k:Kid j)
theorem z1p:z0E (l++r)=z0E l++z0E r:=Y6
theorem z0u:z0E (k::r)=(k.1,z0C k.2.1)::z0E r:=rfl
theorem z2h:(z0E l).length=l.length:=yw _
theorem z0w:z0B (l++r)=z0B l++z0B r:=by simp [z0B]
theorem z04:z0B (k::r)=(k.2.1,Ct.page j k.2.2)::Ct.subs j k.2.2++z0B r:=by simp [z0B]
theorem z1g:z0d (l++r)=z0d l++z0d r:=by simp [z0d]
theorem z0g:z0d (k::r)=Ct.cells j k.2.2++z0d r:=by simp [z0d]
theorem z3d:z4x (l++r)=z4x l++z4x r:=by simp [z4x]
theorem z1U:z4x (k::r)=Ct.lvs j k.2.1 k.2.2++z4x r:=by simp [z4x]
end
def inB(lo:Key)(hi:Option Key)(k:Key):Prop:=¬Lt k lo/\∀h,hi=some h->Lt k h
def z1E{j:Nat}(ks:List (Kid j))(hi:Option Key):Option Key:=match ks with
 | []=>hi
 |k::_=>some k.1
def WfL{j:Nat}(W:Key->Option Key->Ct j->Prop):List (Kid j)->Option Key->Prop
 | [],_=>True
 |k::r,hi=>W k.1 (z1E r hi) k.2.2/\(∀h,z1E r hi=some h->Lt k.1 h)/\WfL W r hi
def Wf:(j:Nat)->Key->Option Key->Ct j->Prop
 |0,lo,hi,c=>Asc c.2/\∀x∈c.2,inB lo hi x.1
 |j+1,lo,hi,ks=>z1E (j:=j) ks none=some lo/\WfL (j:=j) (Wf j) ks hi
theorem z2F{j:Nat}(l r:List (Kid j))(hi:Option Key):z1E (l++r) hi=z1E l (z1E r hi):=by cases l<;>rfl
theorem z3A{j:Nat}{W:Key->Option Key->Ct j->Prop}:∀ (l:List (Kid j)) {r:List (Kid j)} {hi:Option Key},WfL W (l++r) hi↔WfL W l (z1E r hi)/\WfL W r hi
 | [],r,hi=>by simp [WfL]
 |k::l,r,hi=>by
  show W k.1 (z1E (l++r) hi) k.2.2/\(∀h,z1E (l++r) hi=some h->Lt k.1 h)/\WfL W (l++r) hi↔(W k.1 (z1E l (z1E r hi)) k.2.2/\(∀h,z1E l (z1E r hi)=some h->Lt k.1 h)/\WfL W l (z1E r hi))/\WfL W r hi;rw [z2F,z3A l];simp only [and_assoc]
theorem zBM{a b c:Key}(h:¬Lt b a)(h':Lt b c):Lt a c:=by
 rcases z76 (a:=a) (b:=b)with h1|rfl|h1
 .exact h1.trans h'
 .exact h'
 .exact absurd h1 h
theorem z14{a b c:Key}(h:Lt a b)(h':¬Lt c b):Lt a c:=by
 rcases z76 (a:=b) (b:=c)with h1|rfl|h1
 .exact h.trans h1
 .exact h
 .exact absurd h1 h'
theorem z4r{a b c:Key}(h:¬Lt b a)(h':¬Lt c b):¬Lt c a:=fun hc=>h' (z14 hc h)
theorem inB.mono{lo lo':Key}{hi hi':Option Key}{k:Key}(h:inB lo hi k)(hl:¬Lt lo lo')(hh:∀x,hi'=some x->∃y,hi=some y/\¬Lt x y):inB lo' hi' k:=by
 refine⟨z4r hl h.1,fun x hx=> ?_⟩;obtain⟨y,hy,hxy⟩:=hh x hx;exact z14 (h.2 y hy) hxy
theorem z6c{a b:List Cel}:Asc (a++b)↔Asc a/\Asc b/\∀x∈a,∀y∈b,Lt x.1 y.1:=YL
theorem WfL.all{j:Nat}{W:Key->Option Key->Ct j->Prop}(hW:∀lo hi c,W lo hi c->Asc (Ct.cells j c)/\∀x∈Ct.cells j c,inB lo hi x.1):
 ∀ (ks:List (Kid j)) (hi:Option Key),WfL W ks hi->Asc (z0d ks)/\Asc (z0E ks)/\∀lo,z1E ks none=some lo->(∀x∈z0d ks,inB lo hi x.1)/\∀x∈z0E ks,inB lo hi x.1
 | [],hi,_=>⟨List.Pairwise.nil,List.Pairwise.nil,fun lo h=>by cases h⟩
 |k::r,hi,h=>by
  obtain⟨h1,h2,h3⟩:=h;obtain⟨a1,a2,a3⟩:=WfL.all hW r hi h3;obtain⟨b1,b2⟩:=hW _ _ _ h1;have key:∀x:Key,(∃lo,z1E r none=some lo/\inB lo hi x)->Lt k.1 x/\inB k.1 hi x:=by
   rintro x ⟨lo,hlo,hx⟩;have hn:z1E r hi=some lo:=by cases r with
    |nil=>cases hlo
    |cons a r=>exact hlo
   have:=h2 lo hn;exact⟨z14 this hx.1,hx.mono this.not fun y hy=>⟨y,hy,fun h=>h.irrefl⟩⟩
  have hr:∀x∈z0d r,∃lo,z1E r none=some lo/\inB lo hi x.1:=by
   intro x hx;cases r with
   |nil=>simp [z0d]at hx
   |cons a r=>exact⟨a.1,rfl,(a3 a.1 rfl).1 x hx⟩
  have hr':∀x∈z0E r,∃lo,z1E r none=some lo/\inB lo hi x.1:=by
   intro x hx;cases r with
   |nil=>simp [z0E]at hx
   |cons a r=>exact⟨a.1,rfl,(a3 a.1 rfl).2 x hx⟩
  have up:∀x,inB k.1 (z1E r hi) x->inB k.1 hi x:=by
   intro x hx;refine⟨hx.1,fun y hy=> ?_⟩;cases r with
   |nil=>exact hx.2 y hy
   |cons a r=>exact(hx.2 a.1 rfl).trans (((a3 a.1 rfl).2 (a.1,z0C a.2.1) (by simp [z0E])).2 y hy)
  have self:inB k.1 hi k.1:=by
   refine⟨fun h=>h.irrefl,fun y hy=> ?_⟩;cases r with
   |nil=>exact h2 y hy
   |cons a r=>exact(h2 a.1 rfl).trans (((a3 a.1 rfl).2 (a.1,z0C a.2.1) (by simp [z0E])).2 y hy)
  refine⟨?_,?_,fun lo hlo=> ?_⟩
  .rw [z0g,z6c];refine⟨b1,a1,fun x hx y hy=> ?_⟩;obtain⟨lo,hlo,hy⟩:=hr y hy;have hn:z1E r hi=some lo:=by cases r with
    |nil=>cases hlo
    |cons a r=>exact hlo
   exact z14 ((b2 x hx).2 lo hn) hy.1
  .rw [z0u];exact List.Pairwise.cons (fun x hx=>(key _ (hr' x hx)).1) a2
  .obtain rfl:k.1=lo:=by injection hlo
   refine⟨fun x hx=> ?_,fun x hx=> ?_⟩
   .rw [z0g]at hx;rcases yF.1 hx with hx|hx
    .exact up _ (b2 x hx)
    .exact(key _ (hr x hx)).2
   .rw [z0u]at hx;rcases y9.1 hx with rfl|hx
    .exact self
    .exact(key _ (hr' x hx)).2
theorem Wf.all:∀ (j:Nat) (lo:Key) (hi:Option Key) (c:Ct j),Wf j lo hi c->Asc (Ct.cells j c)/\∀x∈Ct.cells j c,inB lo hi x.1
 |0,lo,hi,c,h=>h
 |j+1,lo,hi,ks,h=>by
  obtain⟨h1,h2⟩:=h;obtain⟨a1,_,a3⟩:=WfL.all (Wf.all j) ks hi h2;exact⟨a1,(a3 lo h1).1⟩
theorem Wf.keys{j:Nat}{lo:Key}{hi:Option Key}{c:Ct j}(h:Wf j lo hi c):Asc (Ct.page j c).2.2/\∀x∈(Ct.page j c).2.2,inB lo hi x.1:=by
 cases j with
 |zero=>exact h
 |succ j=>
  obtain⟨h1,h2⟩:=h;obtain⟨_,a2,a3⟩:=WfL.all (Wf.all j) c hi h2;exact⟨a2,(a3 lo h1).2⟩
inductive Cx:Nat->Nat->Type
 |top {D:Nat}:Cx D D
 |step {j D:Nat} (id:Nat) (l:List (Kid j)) (k:Key) (r:List (Kid j)) (up:Cx (j+1) D):Cx j D
def Cx.plug:{j D:Nat}->Cx j D->Nat->Ct j->Ct D
 |_,_,.top,_,c=>c
 |_,_,.step (j:=j) id l k r up,h,c=>up.plug id (show Ct (j+1)from(l++(k,(h,c))::r:List (Kid j)))
def z08{j:Nat}(l:List (Kid j))(k:Key)(h:Nat)(r:List (Kid j)):Pag:=(false,0,z0E l++(k,z0C h)::z0E r)
def Cx.steps:{j D:Nat}->Cx j D->Nat->List TStp
 |_,_,.top,_=> []
 |_,_,.step id l k r up,h=>⟨(id:Int),l.length,z08 l k h r⟩::up.steps id
def Cx.pgs:{j D:Nat}->Cx j D->Nat->List (Nat×Pag)
 |_,_,.top,_=> []
 |_,_,.step id l k r up,h=>(id,z08 l k h r)::(z0B l++z0B r)++up.pgs id
def Cx.root:{j D:Nat}->Cx j D->Nat->Prop
 |_,_,.top,h=>h=0
 |_,_,.step id _ _ _ up,h=>0<h/\up.root id
def Cx.cl:{j D:Nat}->Cx j D->List Cel
 |_,_,.top=> []
 |_,_,.step _ l _ _ up=>up.cl++z0d l
def Cx.cr:{j D:Nat}->Cx j D->List Cel
 |_,_,.top=> []
 |_,_,.step _ _ _ r up=>z0d r++up.cr
def Cx.ll:{j D:Nat}->Cx j D->List (Nat×Nat)
 |_,_,.top=> []
 |_,_,.step _ l _ _ up=>up.ll++z4x l
def Cx.lr:{j D:Nat}->Cx j D->List (Nat×Nat)
 |_,_,.top=> []
 |_,_,.step _ _ _ r up=>z4x r++up.lr
def Cx.WfC:{j D:Nat}->Cx j D->Key->Option Key->Prop
 |_,_,.top,lo,hi=>lo= []/\hi=none
 |_,_,.step (j:=j) id l k r up,lo,hi=>lo=k/\∃lo' hi',up.WfC lo' hi'/\hi=z1E r hi'/\z1E l (some k)=some lo'/\WfL (Wf j) l (some k)/\(∀h,z1E r hi'=some h->Lt k h)/\WfL (Wf j) r hi'
section
variable {j D:Nat}
theorem zAX(l:List (Kid j))(k:Key)(h:Nat)(c:Ct j)(r:List (Kid j)):Ct.page (j+1) (show Ct (j+1)from(l++(k,(h,c))::r:List (Kid j)))=z08 l k h r:=by
 show(false,0,z0E (l++(k,(h,c))::r))=_;rw [z1p,z0u];rfl
theorem zFl:∀ {j D:Nat} (cx:Cx j D) (h:Nat) (c:Ct j) (lo:Key) (hi:Option Key),cx.WfC lo hi->Wf j lo hi c->Wf D [] none (cx.plug h c)
 |_,_,.top,h,c,lo,hi,hc,hw=>by
  obtain⟨rfl,rfl⟩:=hc;exact hw
 |_,_,.step id l k r up,h,c,lo,hi,hc,hw=>by
  obtain⟨rfl,lo',hi',h1,rfl,h3,h4,h5,h6⟩:=hc;refine zFl up id _ lo' hi' h1 ⟨?_,?_⟩
  .rw [z2F];exact h3
  .rw [z3A];exact⟨h4,hw,h5,h6⟩
theorem z29:∀ {j D:Nat} (cx:Cx j D) (h:Nat) (c:Ct j),Ct.cells D (cx.plug h c)=cx.cl++Ct.cells j c++cx.cr
 |_,_,.top,h,c=>by simp [Cx.plug,Cx.cl,Cx.cr]
 |_,_,.step (j:=j) id l k r up,h,c=>by
  rw [Cx.plug,z29 up,Cx.cl,Cx.cr];show up.cl++z0d (l++(k,(h,c))::r)++up.cr=_;rw [z1g,z0g];simp only [yM]
theorem z6L:∀ {j D:Nat} (cx:Cx j D) (h:Nat) (c:Ct j),cx.root h->Ct.lvs D 0 (cx.plug h c)=cx.ll++Ct.lvs j h c++cx.lr
 |_,_,.top,h,c,hr=>by obtain rfl:h=0:=hr;simp [Cx.plug,Cx.ll,Cx.lr]
 |_,_,.step (j:=j) id l k r up,h,c,hr=>by
  rw [Cx.plug,z6L up id _ hr.2,Cx.ll,Cx.lr];show up.ll++z4x (l++(k,(h,c))::r)++up.lr=_;rw [z3d,z1U];simp only [yM]
theorem z32:∀ {j D:Nat} (cx:Cx j D) (h:Nat) (c:Ct j),cx.root h->((0,Ct.page D (cx.plug h c))::Ct.subs D (cx.plug h c)).Perm (cx.pgs h++(h,Ct.page j c)::Ct.subs j c)
 |_,_,.top,h,c,hr=>by obtain rfl:h=0:=hr;exact List.Perm.refl _
 |_,_,.step (j:=j) id l k r up,h,c,hr=>by
  rw [Cx.plug,Cx.pgs];refine(z32 up id _ hr.2).trans ?_;rw [zAX];have e:Ct.subs (j+1) (show Ct (j+1)from(l++(k,(h,c))::r:List (Kid j)))=z0B l++((h,Ct.page j c)::Ct.subs j c++z0B r):=by
   show z0B (l++(k,(h,c))::r)=_;rw [z0w,z04]
  rw [e];generalize z08 l k h r=X;generalize z0B l=A;generalize z0B r=B;generalize (h,Ct.page j c)::Ct.subs j c=C;generalize up.pgs id=U;refine(Qh).trans ?_;simp only [Y8,yM];refine List.Perm.cons _ ?_;refine(List.perm_append_comm (l₁:=U)).trans ?_;simp only [yM];refine Zh A ?_;refine(List.perm_append_comm (l₁:=C)).trans ?_;simp only [yM];refine Zh B ?_;exact List.Perm.refl _
end
theorem zJv{x:Int}{b:List UInt8}(h:z65 x b=0):0<=x/\x<90/\b.length<=2048:=by
 unfold z65 at h
 split at h
 .cases h
 .split at h
  .cases h
  .omega
def POk(x:Pag):Prop:=z1I (x.2.1:Int) x.2.2=0
theorem POk.mk'{x:Pag}(h1:x.2.1<=256)(hc:chk none x.2.2=0)(hs:szP x<=2048):POk x:=by
 unfold POk;exact z9M (by omega) (by omega) hc hs
theorem POk.parts{x:Pag}(h:POk x):x.2.1<=256/\chk none x.2.2=0/\szP x<=2048:=by
 obtain⟨h0,h1,h2⟩:=z6K h;exact⟨by omega,z4s h,h2⟩
theorem POk.bytes{x:Pag}(h:POk x):(pgB x).length<=2048/\z3O (pgB x)=some x:=by
 have h2:=h.parts.2.2;unfold POk at h;unfold pgB;rw [yB h,z7Z];unfold szP at h2;have:=zFf x.1 (x.2.1:Int) x.2.2;exact⟨by omega,zBV h⟩
theorem z5f{n:Nat}{cs:List Cel}(hn:n<=256)(hf:cs.length<16384):z2v (n:Int) cs<=z07 cs+9/\z07 cs+7<=z2v (n:Int) cs:=by
 unfold z2v;have h1:=z2B (x:=(n:Int).toNat) (by omega);have h2:=z1u (n:Int).toNat;have h3:=z2B (x:=cs.length) hf;have h4:=z1u cs.length;omega
theorem zHF(c:Cel):2<=(z3B c).length:=by
 unfold z3B z0y;have h1:=z1u c.1.length;have h2:=z1u c.2.length;simp only [y6];omega
theorem z55(cs:List Cel):2*cs.length<=z07 cs:=by
 induction cs with
 |nil=>simp
 |cons c cs ih=>
  have e:z07 (c::cs)=(z3B c).length+z07 cs:=by simp [z07]
  have:=zHF c;rw [e,y8];omega
theorem z2E{M:Nat}{cs:List Cel}(h:∀c∈cs,(z3B c).length<=M):z07 cs<=M*cs.length:=by
 induction cs with
 |nil=>simp [z07]
 |cons c cs ih=>
  have e:z07 (c::cs)=(z3B c).length+z07 cs:=by simp [z07]
  have h1:=h c (by simp);have h2:=ih fun x hx=>h x (by simp [hx])
  rw [e,y8,Qk];omega
theorem zJS{cs:List Cel}(h:2<=cs.length):∃k,HalfAt cs k:=by
 have key:∀n k,k+n+1=cs.length->1<=k->(∀j,1<=j->j<k->2*z07 (cs.take j)<z07 cs)->∃k,HalfAt cs k:=by
  intro n
  induction n with
  |zero=>exact fun k h1 h2 h3=>⟨k,h2,by omega,h3,.inl (by omega)⟩
  |succ n ih=>
   intro k h1 h2 h3;by_cases hk:2*z07 (cs.take k)<z07 cs
   .refine ih (k+1) (by omega) (by omega) fun j hj1 hj2=> ?_
    rcases Y5 j k with h4|h4
    .exact h3 j hj1 h4
    .obtain rfl:j=k:=by omega
     exact hk
   .exact⟨k,h2,by omega,h3,.inr (by omega)⟩
 exact key (cs.length-2) 1 (by omega) (by omega) fun j h1 h2=>by omega
theorem zHX{cs:List Cel}(h:2<=cs.length):HalfAt cs (z0c cs):=by
 obtain⟨k,hk⟩:=zJS h;rw [z9B hk];exact hk
theorem zFA{cs:List Cel}{k M:Nat}(hk:HalfAt cs k)(hM:∀c∈cs,(z3B c).length<=M)(h484:M<=484)(hlo:2039<=z07 cs):
 z07 cs<=2*z07 (cs.take k)/\z07 cs<=2*(z07 (cs.drop k)+M)/\2*z07 (cs.take k)<=z07 cs+2*M/\2*z07 (cs.drop k)<=z07 cs:=by
 have hsum:z07 cs=z07 (cs.take k)+z07 (cs.drop k):=by rw [<-z0W,yT]
 have hlo1:=hk.lo;have hhi:=hk.hi;obtain⟨j,rfl⟩:∃j,k=j+1:=⟨k-1,by omega⟩;have hj:j<cs.length:=by omega
 have hstep:=z2c (cs:=cs) hj;have hcj:=hM _ (yQ hj);have hzero:z07 (cs.take 0)=0:=rfl;have hlast:z07 cs<=2*z07 (cs.take (j+1)):=by
  rcases hk.stop with h|h
  .have e:cs.drop (j+1)= [cs[j+1]'(by omega)]:=by
    rw [yL (by omega),YW (by omega)]
   have e2:z07 (cs.drop (j+1))<=M:=by
    rw [e,z56];exact hM _ (yQ _)
   omega
  .exact h
 have hfst:2*z07 (cs.take j)<=z07 cs:=by
  rcases Y3 j with h|h
  .subst h;omega
  .have:=hk.less j h (by omega);omega
 refine⟨hlast,by omega,by omega,by omega⟩
structure RepL(pf:PF)(l:List (Nat×Pag)):Prop where
 get:∀i p,pf i=some p↔∃n:Nat,i=(n:Int)/\(n,p)∈l
 nodup:(l.map (·.1)).Nodup
 lt:∀q∈l,q.1<90
def PF.put(pf:PF)(i:Int)(x:Pag):PF:=fun y=>if y=i then some x else pf y
def PF.del(pf:PF)(i:Int):PF:=fun y=>if y=i then none else pf y
theorem PF.put_del(pf:PF)(i:Int)(x:Pag):(pf.del i).put i x=pf.put i x:=by
 funext y
 unfold PF.put PF.del
 split<;>rfl
section
variable {pf:PF} {l l':List (Nat×Pag)} {i:Nat} {p x:Pag}
theorem RepL.perm(h:RepL pf l)(hp:l.Perm l'):RepL pf l':=
 ⟨fun i p=>(h.get i p).trans ⟨fun⟨n,h1,h2⟩=>⟨n,h1,hp.mem_iff.1 h2⟩,fun⟨n,h1,h2⟩=>⟨n,h1,hp.mem_iff.2 h2⟩⟩,
   (hp.map _).nodup h.nodup,fun q hq=>h.lt q (hp.mem_iff.2 hq)⟩
theorem RepL.new(h:RepL pf l)(hi:i∉l.map (·.1))(h9:i<90)(x:Pag):RepL (pf.put i x) ((i,x)::l):=by
 refine⟨fun y q=> ?_,?_,fun q hq=> ?_⟩
 .unfold PF.put;by_cases hy:y=(i:Int)
  .rw [yB hy];constructor
   .intro e;cases e
    exact⟨i,hy,by simp⟩
   .rintro⟨n,hn,hm⟩;obtain rfl:n=i:=by omega
    rcases y9.1 hm with hm|hm
    .cases hm;rfl
    .exact absurd (QP (f:=(·.1)) hm) hi
  .rw [yA hy,h.get];constructor
   .rintro⟨n,hn,hm⟩;exact⟨n,hn,by simp [hm]⟩
   .rintro⟨n,hn,hm⟩;rcases y9.1 hm with hm|hm
    .cases hm;exact absurd hn hy
    .exact⟨n,hn,hm⟩
 .rw [yy,YA];exact⟨hi,h.nodup⟩
 .rcases y9.1 hq with rfl|hq
  .exact h9
  .exact h.lt q hq
theorem RepL.del(h:RepL pf ((i,p)::l)):RepL (pf.del i) l:=by
 have hn:=h.nodup;rw [yy,YA]at hn;refine⟨fun y q=> ?_,hn.2,fun q hq=>h.lt q (by simp [hq])⟩;unfold PF.del;by_cases hy:y=(i:Int)
 .rw [yB hy];constructor
  .intro e;cases e
  .rintro⟨n,hn',hm⟩;obtain rfl:n=i:=by omega
   exact absurd (QP (f:=(·.1)) hm) hn.1
 .rw [yA hy,h.get];constructor
  .rintro⟨n,hn',hm⟩;rcases y9.1 hm with hm|hm
   .cases hm;exact absurd hn' hy
   .exact⟨n,hn',hm⟩
  .rintro⟨n,hn',hm⟩;exact⟨n,hn',by simp [hm]⟩
theorem RepL.put(h:RepL pf ((i,p)::l))(x:Pag):RepL (pf.put i x) ((i,x)::l):=by
 have hn:=h.nodup;rw [yy,YA]at hn;rw [<-PF.put_del];exact h.del.new hn.1 (h.lt _ (by simp)) x
theorem RepL.at(h:RepL pf l)(hm:(i,p)∈l):pf (i:Int)=some p:=(h.get _ _).2 ⟨i,rfl,hm⟩
end
structure RepP(P:Pgr)(c:Int->List UInt8)(l:List (Nat×Pag)):Prop where
 rep:RepL (P.pg c) l
 has:∀i,P.has i=(P.pg c i).isSome
structure Kin(P P':Pgr):Prop where
 D:P'.D=P.D
 a:P'.a=P.a
 n:P'.n=P.n
 num:P'.num=P.num
 last:P'.last=P.last
 tag:P'.tag=P.tag
 tb:P'.tb=P.tb
 w90:zEH P.wr->zEH P'.wr
 wlen:(∀x b,P.wr x=some b->b.length<=2048)->∀x b,P'.wr x=some b->b.length<=2048
 g90:(zEH P.wr/\zEH P.tb/\∀x,P.gn x=true->0<=x/\x<90)->∀x,P'.gn x=true->0<=x/\x<90
section
variable {P P' P'':Pgr} {c:Int->List UInt8} {l l':List (Nat×Pag)} {i:Nat} {p x:Pag}
theorem Kin.refl(P:Pgr):Kin P P:=⟨rfl,rfl,rfl,rfl,rfl,rfl,rfl,id,id,fun h=>h.2.2⟩
theorem Kin.trans(h:Kin P P')(h':Kin P' P''):Kin P P'':=
 ⟨h'.D.trans h.D,h'.a.trans h.a,h'.n.trans h.n,h'.num.trans h.num,h'.last.trans h.last,h'.tag.trans h.tag,h'.tb.trans h.tb,fun k=>h'.w90 (h.w90 k),fun k=>h'.wlen (h.wlen k),
   fun k=>h'.g90 ⟨h.w90 k.1,by rw [h.tb];exact k.2.1,h.g90 k⟩⟩
theorem Kin.put{y:Int}{b:List UInt8}(P:Pgr)(h0:0<=y)(h1:y<90)(hb:b.length<=2048):Kin P (P.put y b):=by
 refine⟨rfl,rfl,rfl,rfl,rfl,rfl,rfl,fun h z hz=> ?_,fun h z d hz=> ?_,fun h z hz=> ?_⟩
 .have hz:(P.wr.put y b z).isSome=true:=hz;unfold SF.put at hz
  split at hz
  .omega
  .exact h z hz
 .have hz:P.wr.put y b z=some d:=hz;unfold SF.put at hz
  split at hz
  .cases hz;exact hb
  .exact h z d hz
 .have hz:z2u P.gn y false z=true:=hz;unfold z2u at hz
  split at hz
  .cases hz
  .exact h.2.2 z hz
theorem Kin.write(P:Pgr)(y:Int)(b:List UInt8):Kin P (P.write y b):=by
 unfold Pgr.write
 split
 .rename_i h;obtain⟨h0,h1,h2⟩:=zJv h;exact Kin.put P h0 h1 h2
 .exact Kin.refl P
theorem Kin.alloc(P:Pgr)(b:List UInt8):Kin P (P.alloc b).1:=by
 unfold Pgr.alloc
 split
 .exact Kin.refl P
 .split
  .rename_i h2 i hi;have:i<90:=by
    unfold Pgr.least at hi;have:=yr hi;exact yt.1 this
   exact Kin.put P (by omega) (by omega) (by omega)
  .exact Kin.refl P
theorem Kin.free(P:Pgr)(y:Int):Kin P (P.free y):=by
 unfold Pgr.free
 split
 .rename_i hh;refine⟨rfl,rfl,rfl,rfl,rfl,rfl,rfl,fun h z hz=> ?_,fun h z d hz=> ?_,fun h z hz=> ?_⟩
  .have hz:(P.wr.del y z).isSome=true:=hz;unfold SF.del at hz
   split at hz
   .cases hz
   .exact h z hz
  .have hz:P.wr.del y z=some d:=hz;unfold SF.del at hz
   split at hz
   .cases hz
   .exact h z d hz
  .have hz:z2u P.gn y true z=true:=hz;unfold z2u at hz
   split at hz
   .rename_i e;subst e;unfold Pgr.has at hh;rw [Z2,Y9]at hh;rcases hh with hh|hh
    .exact h.1 _ hh
    .exact h.2.1 _ hh.1
   .exact h.2.2 z hz
 .exact Kin.refl P
theorem Kin.wp(P:Pgr)(y:Int)(x:Pag):Kin P (P.wp y x):=Kin.write P y _
theorem Kin.al(P:Pgr)(x:Pag):Kin P (P.al x).1:=Kin.alloc P _
theorem zFr(P:Pgr)(y:Int)(b:List UInt8)(z:Int):(P.put y b).has z=if z=y then true else P.has z:=by
 unfold Pgr.put Pgr.has SF.put z2u;by_cases h:z=y
 .simp [h]
 .simp [h]
theorem zIy(P:Pgr)(c:Int->List UInt8)(y:Int){b:List UInt8}{x:Pag}(h:z3O b=some x):(P.put y b).pg c=PF.put (P.pg c) y x:=by
 funext z
 unfold PF.put Pgr.pg Pgr.page;rw [zFr];by_cases hz:z=y
 .subst hz;simp only [YN];have:(P.put z b).wr z=some b:=yB rfl;rw [this];exact h
 .simp only [yA hz];have:(P.put y b).wr z=P.wr z:=yA hz;rw [this]
theorem zBd(h:RepP P c l'){i:Nat}{b:List UInt8}(hx:z3O b=some x)(hr:RepL (PF.put (P.pg c) i x) l):RepP (P.put i b) c l:=by
 refine⟨by rw [zIy P c i hx];exact hr,fun z=> ?_⟩;rw [zFr,zIy P c i hx];unfold PF.put
 split
 .rfl
 .exact h.has z
theorem zJ5(ok:POk x)(h9:i<90):P.wp (i:Int) x=P.put (i:Int) (pgB x):=by
 unfold Pgr.wp Pgr.write;have hb:=ok.bytes.1;rw [yB];unfold z65;rw [yA (by omega),yA (by omega)]
theorem RepP.perm(h:RepP P c l)(hp:l.Perm l'):RepP P c l':=⟨h.rep.perm hp,h.has⟩
theorem RepP.wp(h:RepP P c ((i,p)::l))(ok:POk x):RepP (P.wp (i:Int) x) c ((i,x)::l):=by
 have h9:i<90:=h.rep.lt (i,p) (by simp);rw [zJ5 ok h9];exact zBd h ok.bytes.2 (h.rep.put x)
theorem RepP.new(h:RepP P c l)(hi:i∉l.map (·.1))(h9:i<90)(ok:POk x):RepP (P.wp (i:Int) x) c ((i,x)::l):=by
 rw [zJ5 ok h9];exact zBd h ok.bytes.2 (h.rep.new hi h9 x)
theorem RepP.pages(h:RepP P c l):P.pages.Perm (l.map (·.1)):=by
 have h1:P.pages.Nodup:=List.Nodup.sublist Zy Qg;refine(List.perm_ext_iff_of_nodup h1 h.rep.nodup).2 fun i=> ?_
 unfold Pgr.pages;rw [YD,yt,h.has,yP];constructor
 .rintro⟨h2,h3⟩;obtain⟨q,hq⟩:=ZN.1 h3;obtain⟨n,hn,hm⟩:=(h.rep.get _ _).1 hq;obtain rfl:n=i:=by omega
  exact⟨_,hm,rfl⟩
 .rintro⟨q,hq,rfl⟩;have:=h.rep.lt q hq;refine⟨this,?_⟩;rw [h.rep.at (i:=q.1) (p:=q.2) hq];rfl
theorem RepP.len(h:RepP P c l):P.pages.length=l.length:=by rw [h.pages.length_eq,yw]
theorem RepP.le90(h:RepP P c l):l.length<=90:=by
 rw [<-h.len];have:=YI (fun i:Nat=>P.has (i:Int)) (List.range 90)
 rwa [ZJ]at this
theorem RepP.al(h:RepP P c l)(hl:l.length<90)(ok:POk x):(P.al x).2∉l.map (·.1)/\(P.al x).2<90/\RepP (P.al x).1 c (((P.al x).2,x)::l):=by
 have hb:=ok.bytes.1;obtain⟨i,hi⟩:∃i,P.least=some i:=by
  cases hh:P.least with
  |some i=>exact⟨i,rfl⟩
  |none=>
   unfold Pgr.least at hh;rw [Yk]at hh;have:(List.range 90).length<=(l.map (·.1)).length:=by
    refine List.Nodup.length_le_of_subset Qg fun i hi=> ?_
    have:=hh i hi;refine h.pages.mem_iff.1 ?_;unfold Pgr.pages;rw [YD];exact⟨hi,by simpa using this⟩
   rw [ZJ,yw]at this;omega
 have e:P.alloc (pgB x)=(P.put (i:Int) (pgB x),i,0):=by
  unfold Pgr.alloc;rw [yA (by omega),hi]
 unfold Pgr.al;rw [e];unfold Pgr.least at hi;rw [QN]at hi;obtain⟨h1,as1,bs1,h2,h3⟩:=hi;have h9:i<90:=by
  have:i∈List.range 90:=by rw [h2];simp
  exact yt.1 this
 have hn:i∉l.map (·.1):=fun hm=>by
  have:=h.pages.mem_iff.2 hm;unfold Pgr.pages at this;rw [YD]at this;rw [this.2]at h1;cases h1
 exact⟨hn,h9,zBd h ok.bytes.2 (h.rep.new hn h9 x)⟩
theorem zJP{y:Int}(h:P.has y=true):(P.free y).pg c=PF.del (P.pg c) y/\∀z,(P.free y).has z=(if z=y then false else P.has z):=by
 have e:P.free y={P with wr:=P.wr.del y,gn:=z2u P.gn y true}:=by unfold Pgr.free;rw [yB h]
 have hh:∀z,(P.free y).has z=(if z=y then false else P.has z):=fun z=>by
  rw [e];unfold Pgr.has SF.del z2u;by_cases hz:z=y
  .simp [hz]
  .simp [hz]
 refine⟨?_,hh⟩
 funext z
 unfold PF.del Pgr.pg Pgr.page;rw [hh];by_cases hz:z=y
 .rw [yB hz,yB hz];rfl
 .rw [yA hz,yA hz];have:(P.free y).wr z=P.wr z:=by rw [e];exact yA hz
  rw [this]
theorem RepP.free(h:RepP P c ((i,p)::l)):RepP (P.free (i:Int)) c l:=by
 have hh:P.has (i:Int)=true:=by rw [h.has,h.rep.at (by simp:(i,p)∈(i,p)::l)];rfl
 obtain⟨h1,h2⟩:=zJP (c:=c) hh;refine⟨by rw [h1];exact h.rep.del,fun z=> ?_⟩;rw [h2,h1];unfold PF.del
 split
 .rfl
 .exact h.has z
theorem RepP.pgD(h:RepP P c l)(hm:(i,p)∈l):P.pgD c (i:Int)=p:=by
 unfold Pgr.pgD;rw [h.rep.at hm];rfl
end
def z7u(r:List (Nat×Nat))(e:Nat):Nat:=match r with
 | []=>e
 |x::_=>x.1
def z88:List (Nat×Nat)->Nat->Prop
 | [],_=>True
 |x::r,e=>x.2=z7u r e/\z88 r e
theorem zFB(l r:List (Nat×Nat))(e:Nat):z7u (l++r) e=z7u l (z7u r e):=by cases l<;>rfl
theorem z69:∀ (l:List (Nat×Nat)) {r:List (Nat×Nat)} {e:Nat},z88 (l++r) e↔z88 l (z7u r e)/\z88 r e
 | [],r,e=>by simp [z88]
 |x::l,r,e=>by
  show x.2=z7u (l++r) e/\z88 (l++r) e↔(x.2=z7u l (z7u r e)/\z88 l (z7u r e))/\z88 r e;rw [zFB,z69 l,and_assoc]
structure Prm where
 a:Nat
 m:Nat
 K:Nat
structure Prm.Ok(Q:Prm):Prop where
 a1:1<=Q.a
 a2:Q.a<=2
 m2:2<=Q.m
 m4:Q.m<=4
 K:Q.K<=240
 low:Q.m*(Q.K+4)<=500+(Q.K+4)
def FlT(Q:Prm):(j:Nat)->Ct j->Prop
 |0,c=>Q.a<=c.2.length
 |j+1,ks=>Q.m<=List.length (α:=Kid j) ks/\∀k,List.Mem (α:=Kid j) k ks->FlT Q j k.2.2
def FlL{j:Nat}(Q:Prm)(ks:List (Kid j)):Prop:=∀k∈ks,FlT Q j k.2.2
def FlIn(Q:Prm):(j:Nat)->Ct j->Prop
 |0,_=>True
 |j+1,ks=>FlL (j:=j) Q ks
def Ct.n:(j:Nat)->Ct j->Nat
 |0,c=>c.2.length
 |j+1,ks=>List.length (α:=Kid j) ks
def z7p(Q:Prm):Nat->Nat
 |0=>Q.a
 |_+1=>Q.m
def z9S:Nat->Nat
 |0=>0
 |_+1=>2
theorem z1S(Q:Prm):∀ (j:Nat) (c:Ct j),FlT Q j c↔z7p Q j<=Ct.n j c/\FlIn Q j c
 |0,c=>by simp [FlT,z7p,Ct.n,FlIn]
 |j+1,c=>Iff.rfl
theorem Ct.n_page:∀ (j:Nat) (c:Ct j),(Ct.page j c).2.2.length=Ct.n j c
 |0,c=>rfl
 |j+1,c=>z2h _
theorem z4i{j:Nat}{Q:Prm}{l r:List (Kid j)}:FlL Q (l++r)↔FlL Q l/\FlL Q r:=by
 unfold FlL;constructor
 .exact fun h=>⟨fun k hk=>h k (by simp [hk]),fun k hk=>h k (by simp [hk])⟩
 .rintro⟨h1,h2⟩ k hk;rcases yF.1 hk with hk|hk
  .exact h1 k hk
  .exact h2 k hk
theorem z0l{j:Nat}{Q:Prm}{k:Kid j}{r:List (Kid j)}:FlL Q (k::r)↔FlT Q j k.2.2/\FlL Q r:=by
 unfold FlL;constructor
 .exact fun h=>⟨h k (by simp),fun x hx=>h x (by simp [hx])⟩
 .rintro⟨h1,h2⟩ x hx;rcases y9.1 hx with rfl|hx
  .exact h1
  .exact h2 x hx
def Cx.need(Q:Prm):{j D:Nat}->Cx j D->Nat
 |j,_,.top=>z9S j
 |j,_,.step _ _ _ _ _=>z7p Q j
def Cx.FlC(Q:Prm):{j D:Nat}->Cx j D->Prop
 |_,_,.top=>True
 |_,_,.step _ l _ r up=>FlL Q l/\FlL Q r/\up.need Q<=l.length+1+r.length/\up.FlC Q
def Cx.FlK(Q:Prm):{j D:Nat}->Cx j D->Prop
 |_,_,.top=>True
 |_,_,.step _ l _ r up=>FlL Q l/\FlL Q r/\up.FlC Q
def Cx.CntOk(Q:Prm):{j D:Nat}->Cx j D->Prop
 |_,_,.top=>True
 |_,_,.step _ l _ r up=>up.need Q<=l.length+1+r.length
theorem Cx.FlC_iff(Q:Prm){j D:Nat}(cx:Cx j D):cx.FlC Q↔cx.FlK Q/\cx.CntOk Q:=by
 cases cx with
 |top=>simp [Cx.FlC,Cx.FlK,Cx.CntOk]
 |step id l k r up=>
  show(FlL Q l/\FlL Q r/\up.need Q<=l.length+1+r.length/\up.FlC Q)↔(FlL Q l/\FlL Q r/\up.FlC Q)/\up.need Q<=l.length+1+r.length;constructor
  .rintro⟨a,b,c,d⟩;exact⟨⟨a,b,d⟩,c⟩
  .rintro⟨⟨a,b,d⟩,c⟩;exact⟨a,b,c,d⟩
theorem zFk(Q:Prm):∀ {j D:Nat} (cx:Cx j D) (h:Nat) (c:Ct j),cx.FlC Q->FlIn Q j c->cx.need Q<=Ct.n j c->FlIn Q D (cx.plug h c)/\z9S D<=Ct.n D (cx.plug h c)
 |_,_,.top,h,c,h1,h2,h3=>⟨h2,h3⟩
 |_,_,.step (j:=j) id l k r up,h,c,h1,h2,h3=>by
  obtain⟨f1,f2,f3,f4⟩:=h1;refine zFk Q up id _ f4 ?_ ?_
  .show FlL Q (l++(k,(h,c))::r);rw [z4i,z0l];exact⟨f1,(z1S Q j c).2 ⟨h3,h2⟩,f2⟩
  .show up.need Q<=(l++(k,(h,c))::r).length;rw [y6,y8];omega
def KOk(K:Nat)(x:Pag):Prop:=x.2.1<90/\∀c∈x.2.2,c.1.length<=K
theorem zEb:∀ {p:Option Key} {cs:List Cel},(∀q,p=some q->∀c∈cs,Lt q c.1)->Asc cs->(∀c∈cs,c.1.length+c.2.length<=480)->chk p cs=0
 |_,[],_,_,_=>by rw [chk]
 |p,c::cs,hp,ha,hs=>by
  have h1:=hs c (by simp);rw [chk,yA (by omega),yA]
  .have:=yh.1 ha;exact zEb (fun q hq x hx=>by cases hq;exact this.1 x hx) this.2 fun x hx=>hs x (by simp [hx])
  .unfold zB1;cases p with
   |none=>simp
   |some q=>simp [z0K.2 (hp q rfl c (by simp))]
theorem z3y{cs:List Cel}(ha:Asc cs)(hs:∀c∈cs,c.1.length+c.2.length<=480):chk none cs=0:=zEb (fun q hq=>by cases hq) ha hs
theorem POk.asc{x:Pag}(h:POk x):Asc x.2.2:=(z9z none _ h.parts.2.1).asc
structure Big(K:Nat)(x:Pag):Prop where
 next:x.2.1<=256
 asc:Asc x.2.2
 small:∀c∈x.2.2,c.1.length+c.2.length<=480
 key:KOk K x
 size:szP x<=4600
theorem Big.chk{K:Nat}{x:Pag}(h:Big K x):chk none x.2.2=0:=z3y h.asc h.small
theorem Big.ok{K:Nat}{x:Pag}(h:Big K x)(hs:szP x<=2048):POk x:=POk.mk' h.next h.chk hs
theorem POk.big{K:Nat}{x:Pag}(h:POk x)(hk:KOk K x):Big K x:=⟨h.parts.1,h.asc,z11 none _ h.parts.2.1,hk,by have:=h.parts.2.2;omega⟩
theorem zAj{x:Pag}:2*x.2.2.length+7<=szP x:=by
 unfold szP z2v;have h1:=z55 x.2.2;have h2:=z1u (x.2.1:Int).toNat;have h3:=z1u x.2.2.length;omega
theorem Big.sz{K:Nat}{x:Pag}(h:Big K x):szP x<=z07 x.2.2+9/\z07 x.2.2+7<=szP x:=by
 have h1:=zAj (x:=x);have h2:=h.size;exact z5f h.next (by omega)
theorem z5o{x:Nat}(h:x<90):(z0C x).length=1:=z6T (by omega)
theorem z54{K:Nat}{k:Key}{i:Nat}(hk:k.length<=K)(hK:K<=240)(hi:i<90):(z3B (k,z0C i)).length<=K+4:=by
 unfold z3B z0y;have e:=z5o hi;have h1:=z2B (x:=k.length) (by omega);rw [e];have h2:=z6T (x:=1) (by omega);simp only [y6];omega
def ctL:(j:Nat)->Ct j->Nat->Nat->Ct j
 |0,c,k,o=>(o,c.2.take k)
 |j+1,ks,k,_=>List.take (α:=Kid j) k ks
def ctR:(j:Nat)->Ct j->Nat->Ct j
 |0,c,k=>(c.1,c.2.drop k)
 |j+1,ks,k=>List.drop (α:=Kid j) k ks
theorem z59(j:Nat)(c:Ct j)(k o:Nat):Ct.page j (ctL j c k o)=((Ct.page j c).1,if(Ct.page j c).1 then o else(Ct.page j c).2.1,(Ct.page j c).2.2.take k):=by
 cases j with
 |zero=>rfl
 |succ j=>
  show(false,0,z0E (List.take k _))=(false,(if false=true then o else 0),List.take k (z0E _));unfold z0E;rw [List.map_take];rfl
theorem z3Y(j:Nat)(c:Ct j)(k:Nat):Ct.page j (ctR j c k)=((Ct.page j c).1,(Ct.page j c).2.1,(Ct.page j c).2.2.drop k):=by
 cases j with
 |zero=>rfl
 |succ j=>
  show(false,0,z0E (List.drop k _))=(false,0,List.drop k (z0E _));unfold z0E;rw [List.map_drop]
theorem zEl(j:Nat)(c:Ct j)(k:Nat):Ct.page j (ctR j c k)=((Ct.page j c).1,if(Ct.page j c).1 then(Ct.page j c).2.1 else 0,(Ct.page j c).2.2.drop k):=by
 rw [z3Y];cases j<;>rfl
theorem zCK(j:Nat)(c:Ct j)(k o:Nat):Ct.cells j (ctL j c k o)++Ct.cells j (ctR j c k)=Ct.cells j c:=by
 cases j with
 |zero=>exact yT k _
 |succ j=>
  show z0d (List.take k _)++z0d (List.drop k _)=z0d _;rw [<-z1g,yT]
theorem z3Z(j:Nat)(c:Ct j)(k o:Nat):Ct.subs j (ctL j c k o)++Ct.subs j (ctR j c k)=Ct.subs j c:=by
 cases j with
 |zero=>rfl
 |succ j=>
  show z0B (List.take k _)++z0B (List.drop k _)=z0B _;rw [<-z0w,yT]
theorem ct_n(j:Nat)(c:Ct j)(k o:Nat):Ct.n j (ctL j c k o)=min k (Ct.n j c)/\Ct.n j (ctR j c k)=Ct.n j c-k:=by
 cases j with
 |zero=>exact⟨yC,yI⟩
 |succ j=>exact⟨yC,yI⟩
theorem zJJ{Q:Prm}{j:Nat}{c:Ct j}(h:FlIn Q j c)(k o:Nat):FlIn Q j (ctL j c k o)/\FlIn Q j (ctR j c k):=by
 cases j with
 |zero=>exact⟨trivial,trivial⟩
 |succ j=>exact⟨fun x hx=>h x (yY hx),fun x hx=>h x (yo hx)⟩
theorem zCL{j:Nat}{c:Ct j}{k o h e:Nat}{A B:List (Nat×Nat)}(hne:0<(Ct.lvs j o (ctR j c k)).length):
 z88 (A++Ct.lvs j h c++B) e->z88 (A++(Ct.lvs j h (ctL j c k o)++Ct.lvs j o (ctR j c k))++B) e:=by
 intro hc;cases j with
 |zero=>
  have e1:Ct.lvs 0 h (ctL 0 c k o)++Ct.lvs 0 o (ctR 0 c k)= [(h,o),(o,c.1)]:=rfl;have e2:Ct.lvs 0 h c= [(h,c.1)]:=rfl;rw [e1];rw [e2]at hc;rw [yM,z69]at hc ⊢;exact⟨hc.1,rfl,hc.2⟩
 |succ j=>
  have e1:Ct.lvs (j+1) h (ctL (j+1) c k o)++Ct.lvs (j+1) o (ctR (j+1) c k)=Ct.lvs (j+1) h c:=by
   show z4x (List.take k _)++z4x (List.drop k _)=z4x _;rw [<-z3d,yT]
  rw [e1];exact hc
theorem zIq:∀ (j i:Nat) (c:Ct j),(0<j->0<Ct.n j c)->(FlIn ⟨1,1,0⟩ j c)->0<(Ct.lvs j i c).length
 |0,i,c,_,_=>by simp [Ct.lvs]
 |j+1,i,c,h0,hf=>by
  have h0:=h0 (by omega);obtain⟨k,r,rfl⟩:∃k r,c=(k::r:List (Kid j)):=by
   cases c with
   |nil=>simp [Ct.n]at h0
   |cons k r=>exact⟨k,r,rfl⟩
  show 0<(z4x (k::r)).length;rw [z1U,y6];have h1:=(z0l.1 hf).1;rw [z1S]at h1;have:=zIq j k.2.1 k.2.2 (fun h=>by have:=h1.1;cases j with
   |zero=>omega
   |succ j=>exact this) h1.2
  omega
theorem FlIn.weak{Q:Prm}(hQ:Q.Ok):∀ {j:Nat} {c:Ct j},FlIn Q j c->FlIn ⟨1,1,0⟩ j c
 |0,_,_=>trivial
 |j+1,c,h=>fun k hk=>by
  have h1:=h k hk;rw [z1S]at h1 ⊢;have a1:=hQ.a1;have m2:=hQ.m2;refine⟨?_,h1.2.weak hQ⟩;cases j with
  |zero=>have:=h1.1;simp only [z7p]at this ⊢;omega
  |succ j=>have:=h1.1;simp only [z7p]at this ⊢;omega
theorem ct_wf{j:Nat}{lo:Key}{hi:Option Key}{c:Ct j}{k:Nat}(o:Nat)(h:Wf j lo hi c)(h1:1<=k)(h2:k<Ct.n j c):
 ∃s,s=(cellAt ((Ct.page j c).2.2.drop k) 0).1/\Wf j lo (some s) (ctL j c k o)/\Wf j s hi (ctR j c k)/\Lt lo s/\(∀y,hi=some y->Lt s y):=by
 refine⟨_,rfl,?_⟩;have hall:=h.keys;have hn:=Ct.n_page j c;obtain⟨X,hX⟩:∃X,(Ct.page j c).2.2=X:=⟨_,rfl⟩;rw [hX]at hall hn ⊢;have hk:k<X.length:=by omega
 have hd:X.drop k=X[k]::X.drop (k+1):=yL hk;have hs:(cellAt (X.drop k) 0).1=X[k].1:=by rw [hd];rfl
 rw [hs];have hsp:Asc (X.take k++X.drop k):=by rw [yT];exact hall.1
 rw [z6c]at hsp;have hlt:∀x∈X.take k,Lt x.1 X[k].1:=fun x hx=>hsp.2.2 x hx X[k] (by rw [hd];exact YJ)
 have hge:∀x∈X.drop k,¬Lt x.1 X[k].1:=fun x hx=>by
  rw [hd]at hx;rcases y9.1 hx with rfl|hx
  .exact fun h=>h.irrefl
  .have:=hsp.2.1;rw [hd]at this;exact((yh.1 this).1 x hx).not
 have h0:X[0]∈X.take k:=by
  obtain⟨k',rfl⟩:∃k',k=k'+1:=⟨k-1,by omega⟩;rcases X with _|⟨x,X⟩
  .simp at hk
  .simp
 have hlo:Lt lo X[k].1:=zBM (hall.2 X[0] (yQ _)).1 (hlt _ h0);refine⟨?_,?_,hlo,(hall.2 X[k] (yQ _)).2⟩
 .cases j with
  |zero=>
   have e:c.2=X:=hX;refine⟨?_,?_⟩
   .show Asc (c.2.take k);rw [e];exact hsp.1
   .show ∀x∈c.2.take k,_;rw [e];exact fun x hx=>⟨(hall.2 x (yY hx)).1,fun y hy=>by cases hy;exact hlt x hx⟩
  |succ j=>
   have e:z0E (j:=j) c=X:=hX;obtain⟨w1,w2⟩:=h;have hl:k<List.length (α:=Kid j) c:=h2;have hdk:List.drop k c=c[k]::List.drop (k+1) c:=yL hl;have hx:X[k].1=(c[k]:Kid j).1:=by
    subst e;simp [z0E]
   rw [<-yT (α:=Kid j) k c]at w2;rw [z3A]at w2;rw [hdk]at w2;refine⟨?_,?_⟩
   .show z1E (List.take k c) none=some lo;rw [<-w1];obtain⟨k',rfl⟩:∃k',k=k'+1:=⟨k-1,by omega⟩;cases c with
    |nil=>simp at hl
    |cons a c=>rfl
   .show WfL (Wf j) (List.take k c) (some X[k].1);rw [hx];exact w2.1
 .cases j with
  |zero=>
   have e:c.2=X:=hX;refine⟨?_,?_⟩
   .show Asc (c.2.drop k);rw [e];exact hsp.2.1
   .show ∀x∈c.2.drop k,_;rw [e];exact fun x hx=>⟨hge x hx,(hall.2 x (yo hx)).2⟩
  |succ j=>
   have e:z0E (j:=j) c=X:=hX;obtain⟨w1,w2⟩:=h;have hl:k<List.length (α:=Kid j) c:=h2;have hdk:List.drop k c=c[k]::List.drop (k+1) c:=yL hl;have hx:X[k].1=(c[k]:Kid j).1:=by
    subst e;simp [z0E]
   rw [<-yT (α:=Kid j) k c]at w2;rw [z3A]at w2;refine⟨?_,?_⟩
   .show z1E (List.drop k c) none=some X[k].1;rw [hdk,hx];rfl
   .exact w2.2
def z8q(D:Nat)(c:Ct D):List (Nat×Pag):=(0,Ct.page D c)::Ct.subs D c
structure Tree(Q:Prm)(P:Pgr)(c:Int->List UInt8)(D:Nat)(t:Ct D):Prop where
 rep:RepP P c (z8q D t)
 wf:Wf D [] none t
 ok:∀q∈z8q D t,POk q.2/\KOk Q.K q.2
 ch:z88 (Ct.lvs D 0 t) 0
 fl:FlIn Q D t
 root:z9S D<=Ct.n D t
structure UpK(Q:Prm){j D:Nat}(cx:Cx j D)(h:Nat)(t:Ct j):Prop where
 root:cx.root h
 wf:∃lo hi,cx.WfC lo hi/\Wf j lo hi t
 ok:∀q∈cx.pgs h++Ct.subs j t,POk q.2/\KOk Q.K q.2
 big:Big Q.K (Ct.page j t)
 ch:z88 (cx.ll++Ct.lvs j h t++cx.lr) 0
 cfk:cx.FlK Q
 fl:FlIn Q j t
 i90:∀q∈cx.pgs h++Ct.subs j t,q.1<90
structure UpJ(Q:Prm){j D:Nat}(cx:Cx j D)(h:Nat)(t:Ct j):Prop extends UpK Q cx h t where
 cok:cx.CntOk Q
theorem UpJ.cfl{Q:Prm}{j D:Nat}{cx:Cx j D}{h:Nat}{t:Ct j}(u:UpJ Q cx h t):cx.FlC Q:=(cx.FlC_iff Q).2 ⟨u.cfk,u.cok⟩
structure UpI(Q:Prm)(P:Pgr)(c:Int->List UInt8){j D:Nat}(cx:Cx j D)(h:Nat)(t:Ct j)(st:Pag):Prop extends UpJ Q cx h t where
 rep:RepP P c (cx.pgs h++(h,st)::Ct.subs j t)
section
variable {Q:Prm} {P:Pgr} {c:Int->List UInt8} {j D:Nat} {h:Nat} {t:Ct j} {st:Pag}
theorem UpI.lt{cx:Cx j D}(u:UpI Q P c cx h t st):h<90:=u.rep.rep.lt (h,st) (by simp)
theorem UpI.fin{cx:Cx j D}(u:UpI Q P c cx h t st)(hn:cx.need Q<=Ct.n j t)(hs:szP (Ct.page j t)<=2048):
 Tree Q (P.wp (h:Int) (Ct.page j t)) c D (cx.plug h t):=by
 obtain⟨lo,hi,w1,w2⟩:=u.wf;have ok:=u.big.ok hs;have hp:=z32 cx h t u.root;have hf:=zFk Q cx h t u.cfl u.fl hn;refine⟨?_,zFl cx h t lo hi w1 w2,?_,by rw [z6L cx h t u.root];exact u.ch,hf.1,hf.2⟩
 .refine RepP.perm ?_ hp.symm;have r1:RepP P c ((h,st)::(cx.pgs h++Ct.subs j t)):=u.rep.perm Qh;exact(r1.wp ok).perm List.perm_middle.symm
 .intro q hq;have:=hp.mem_iff.1 hq;rcases yF.1 this with hq|hq
  .exact u.ok q (by simp [hq])
  .rcases y9.1 hq with rfl|hq
   .exact⟨ok,u.big.key⟩
   .exact u.ok q (by simp [hq])
theorem zHt{A B:List Cel}{s:Cel}(h1:∀x∈A,Lt x.1 s.1)(h2:∀x∈B,Lt s.1 x.1):putC (A++B) s=A++s::B:=by
 have hf:z05 (A++B) s.1=A.length:=z6u h1 fun x hx=>(h2 x hx).not
 have hk:isK (A++B) s.1=false:=by
  unfold isK;rw [hf];cases B with
  |nil=>simp
  |cons b B=>
   have:=(h2 b (by simp)).ne;simp only [yx (y5 _),Zs,ZR];exact yV.2 fun e=>this e.symm
 rw [zFp hk,hf];simp
theorem z6i(cs:List Cel)(s:Cel):z07 (putC cs s)<=z07 cs+(z3B s).length:=by
 unfold putC;have e:cs=cs.take (z05 cs s.1)++cs.drop (z05 cs s.1):=(yT _ _).symm;have h1:z07 cs=z07 (cs.take (z05 cs s.1))+z07 (cs.drop (z05 cs s.1)):=by rw [<-z0W,<-e]
 have h2:z07 (cs.drop (z05 cs s.1+z4g cs s.1))<=z07 (cs.drop (z05 cs s.1)):=by
  rw [<-QU];generalize cs.drop (z05 cs s.1)=Y;have:z07 Y=z07 (Y.take (z4g cs s.1))+z07 (Y.drop (z4g cs s.1)):=by rw [<-z0W,yT]
  omega
 have e3:z07 (s::cs.drop (z05 cs s.1+z4g cs s.1))=(z3B s).length+z07 (cs.drop (z05 cs s.1+z4g cs s.1)):=by simp [z07]
 rw [z0W,e3];omega
theorem z6J{cs:List Cel}{s x:Cel}(h:x∈putC cs s):x=s∨x∈cs:=by
 unfold putC at h;rcases yF.1 h with h|h
 .exact .inr (yY h)
 .rcases y9.1 h with h|h
  .exact .inl h
  .exact .inr (yo h)
theorem Big.put{K:Nat}{x:Pag}(h:Big K x)(hs:szP x<=4000){s:Cel}(h1:s.1.length+s.2.length<=480)(hk:s.1.length<=K):Big K (z15 x s):=by
 refine⟨h.next,h.asc.putC s,fun y hy=> ?_,⟨h.key.1,fun y hy=> ?_⟩,?_⟩
 .rcases z6J hy with rfl|hy
  .exact h1
  .exact h.small y hy
 .rcases z6J hy with rfl|hy
  .exact hk
  .exact h.key.2 y hy
 .have h2:=h.sz;have h3:=z6i x.2.2 s;have h4:=z2Y h1;have h5:=z55 (putC x.2.2 s);have h6:=z5f (n:=x.2.1) (cs:=putC x.2.2 s) h.next (by omega);show z2v (x.2.1:Int) (putC x.2.2 s)<=4600;omega
theorem Big.halves{K:Nat}{x:Pag}(h:Big K x)(hK:K<=240)(hs:2048<szP x)(h26:szP x<=2600)(hv:x.1=false->∀c∈x.2.2,c.2.length=1):
 2<=x.2.2.length/\HalfAt x.2.2 (z0c x.2.2)/\1<=z0c x.2.2/\z0c x.2.2<x.2.2.length/\
 (∀n,n<=256->POk (x.1,n,x.2.2.take (z0c x.2.2))/\POk (x.1,n,x.2.2.drop (z0c x.2.2)))/\
 2<=(x.2.2.take (z0c x.2.2)).length/\2<=(x.2.2.drop (z0c x.2.2)).length/\
 (x.1=false->4<=(x.2.2.take (z0c x.2.2)).length/\4<=(x.2.2.drop (z0c x.2.2)).length)/\
 (x.1=false->K<=139->7<=(x.2.2.take (z0c x.2.2)).length/\7<=(x.2.2.drop (z0c x.2.2)).length/\15<=x.2.2.length):=by
 have hz:=h.sz;have hM:∀c∈x.2.2,(z3B c).length<=484:=fun c hc=>z2Y (h.small c hc)
 have hge:=z2E hM;have h2:2<=x.2.2.length:=by omega
 have hk:=zHX h2;have hlo:=hk.lo;have hhi:=hk.hi;have hb:=zFA hk hM (y5 _) (by omega);have ht:=z2E (M:=484) (cs:=x.2.2.take (z0c x.2.2)) fun c hc=>hM c (yY hc)
 have hd:=z2E (M:=484) (cs:=x.2.2.drop (z0c x.2.2)) fun c hc=>hM c (yo hc)
 have hl1:=z55 (x.2.2.take (z0c x.2.2));have hl2:=z55 (x.2.2.drop (z0c x.2.2));have hch:=h.chk;have inner:x.1=false->∀K',K'<=K+4->(∀c∈x.2.2,(z3B c).length<=K+4):=fun hx K' _ c hc=>by
  have h1:=h.key.2 c hc;have h3:=hv hx c hc;unfold z3B;rw [y6,z1j _ (by omega),z1j _ (by omega),h3];have h4:=z2B (x:=c.1.length) (by omega);have h5:=z6T (x:=1) (by omega);omega
 have inner2:x.1=false->(x.2.2.take (z0c x.2.2)).length*(K+4)≥z07 (x.2.2.take (z0c x.2.2))/\(x.2.2.drop (z0c x.2.2)).length*(K+4)≥z07 (x.2.2.drop (z0c x.2.2))/\x.2.2.length*(K+4)≥z07 x.2.2/\z07 x.2.2<=2*(z07 (x.2.2.drop (z0c x.2.2))+(K+4)):=fun hx=>by
  have hi:=inner hx 0 (by omega);have a1:=z2E (M:=K+4) (cs:=x.2.2.take (z0c x.2.2)) fun c hc=>hi c (yY hc)
  have a2:=z2E (M:=K+4) (cs:=x.2.2.drop (z0c x.2.2)) fun c hc=>hi c (yo hc)
  have a3:=z2E hi;have a4:=zFA hk hi (by omega) (by omega);rw [QS]at a1 a2 a3;exact⟨a1,a2,a3,a4.2.1⟩
 refine⟨h2,hk,hlo,by omega,fun n hn=> ?_,by omega,by omega,fun hx=> ?_,fun hx hK'=> ?_⟩
 .have z1:=z5f (n:=n) (cs:=x.2.2.take (z0c x.2.2)) hn (by omega);have z2:=z5f (n:=n) (cs:=x.2.2.drop (z0c x.2.2)) hn (by omega);exact⟨POk.mk' hn (z8w _ _ _ hch) (yD z1.1 (by omega)),POk.mk' hn (z6l _ _ _ hch) (yD z2.1 (by omega))⟩
 .obtain⟨a1,a2,a3,a4⟩:=inner2 hx;have k1:(x.2.2.take (z0c x.2.2)).length*(K+4)<=(x.2.2.take (z0c x.2.2)).length*244:=YT _ (by omega);have k2:(x.2.2.drop (z0c x.2.2)).length*(K+4)<=(x.2.2.drop (z0c x.2.2)).length*244:=YT _ (by omega);omega
 .obtain⟨a1,a2,a3,a4⟩:=inner2 hx;have k1:(x.2.2.take (z0c x.2.2)).length*(K+4)<=(x.2.2.take (z0c x.2.2)).length*143:=YT _ (by omega);have k2:(x.2.2.drop (z0c x.2.2)).length*(K+4)<=(x.2.2.drop (z0c x.2.2)).length*143:=YT _ (by omega);have k3:x.2.2.length*(K+4)<=x.2.2.length*143:=YT _ (by omega);omega
end
theorem z0a{α:Type} [BEq α] [LawfulBEq α]{l l':List α}(h:∀a,l.count a=l'.count a):l.Perm l':=List.perm_iff_count.2 h
theorem zFJ{j:Nat}{ks:List (Kid j)}(h:∀k∈ks,k.2.1<90):∀c∈z0E ks,c.2.length=1:=by
 intro c hc;obtain⟨k,hk,rfl⟩:=yP.1 hc;exact z5o (h k hk)
theorem zIp{j:Nat}{ks:List (Kid j)}{k:Kid j}(h:k∈ks):(k.2.1,Ct.page j k.2.2)∈z0B ks:=YE.2 ⟨k,h,by simp⟩
section
variable {Q:Prm} {P:Pgr} {c:Int->List UInt8} {j D:Nat} {h:Nat} {t:Ct j} {st:Pag}
theorem UpK.one{cx:Cx j D}(u:UpK Q cx h t):(Ct.page j t).1=false->∀x∈(Ct.page j t).2.2,x.2.length=1:=by
 intro hl x hx;cases j with
 |zero=>cases hl
 |succ j=>
  refine zFJ (ks:=t) (fun k hk=> ?_) x hx;exact u.i90 (k.2.1,Ct.page j k.2.2) (YO _ (zIp hk))
def z2s{j D:Nat}(cx:Cx j D)(h:Nat)(t:Ct j):Nat:=(cx.pgs h).length+1+(Ct.subs j t).length
theorem UpI.pages{cx:Cx j D}(u:UpI Q P c cx h t st):P.pages.length=z2s cx h t:=by
 rw [u.rep.len,y6,y8];unfold z2s;omega
def z4z{j:Nat}(l:List (Kid j))(k:Key)(h:Nat)(t:Ct j)(r:List (Kid j))(o m:Nat)(s:Key):Ct (j+1):=(l++(k,(h,ctL j t m o))::(s,(o,ctR j t m))::r:List (Kid j))
theorem zGR{j:Nat}(l:List (Kid j))(k:Key)(h:Nat)(t:Ct j)(r:List (Kid j))(o m:Nat)(s:Key):Ct.n (j+1) (z4z l k h t r o m s)=l.length+1+r.length+1:=by
 show(l++(k,(h,ctL j t m o))::(s,(o,ctR j t m))::r).length=_;simp;omega
theorem zGS{j:Nat}(l:List (Kid j))(k:Key)(h:Nat)(t:Ct j)(r:List (Kid j))(o m:Nat)(s:Key):Ct.page (j+1) (z4z l k h t r o m s)=(false,0,z0E l++(k,z0C h)::(s,z0C o)::z0E r):=by
 show(false,0,z0E (l++(k,(h,ctL j t m o))::(s,(o,ctR j t m))::r))=_;rw [z1p,z0u,z0u]
theorem z2o{j:Nat}(l:List (Kid j))(k:Key)(h:Nat)(t:Ct j)(r:List (Kid j))(o m:Nat)(s:Key):Ct.subs (j+1) (z4z l k h t r o m s)=z0B l++((h,Ct.page j (ctL j t m o))::Ct.subs j (ctL j t m o)++((o,Ct.page j (ctR j t m))::Ct.subs j (ctR j t m)++z0B r)):=by
 show z0B (l++(k,(h,ctL j t m o))::(s,(o,ctR j t m))::r)=_;rw [z0w,z04,z04]
theorem z8k{j:Nat}(l:List (Kid j))(k:Key)(h:Nat)(t:Ct j)(r:List (Kid j))(o m:Nat)(s:Key):Ct.cells (j+1) (z4z l k h t r o m s)=z0d l++Ct.cells j t++z0d r:=by
 show z0d (l++(k,(h,ctL j t m o))::(s,(o,ctR j t m))::r)=_;rw [z1g,z0g,z0g,<-yM (Ct.cells j _),zCK,yM]
theorem zIJ{j:Nat}(l:List (Kid j))(k:Key)(h i:Nat)(t:Ct j)(r:List (Kid j))(o m:Nat)(s:Key):Ct.lvs (j+1) i (z4z l k h t r o m s)=z4x l++(Ct.lvs j h (ctL j t m o)++Ct.lvs j o (ctR j t m))++z4x r:=by
 show z4x (l++(k,(h,ctL j t m o))::(s,(o,ctR j t m))::r)=_;rw [z3d,z1U,z1U];simp only [yM]
theorem Cx.WfC.lt_lead{id:Nat}{l r:List (Kid j)}{k:Key}{up:Cx (j+1) D}{lo:Key}{hi:Option Key}(w:(Cx.step id l k r up).WfC lo hi):
 (∀x∈z0E l,Lt x.1 k)/\(∀x∈z0E r,∀y,hi=some y->¬Lt x.1 y)/\Asc (z0E l++(k,z0C h)::z0E r):=by
 obtain⟨rfl,lo',hi',h1,rfl,h3,h4,h5,h6⟩:=w;obtain⟨_,a2,a3⟩:=WfL.all (Wf.all j) l _ h4;obtain⟨_,b2,b3⟩:=WfL.all (Wf.all j) r _ h6;have hl:∀x∈z0E l,Lt x.1 lo:=by
  intro x hx;cases l with
  |nil=>simp [z0E]at hx
  |cons a l=>exact((a3 a.1 rfl).2 x hx).2 lo rfl
 have hr:∀x∈z0E r,∀y,z1E r hi'=some y->¬Lt x.1 y:=by
  intro x hx y hy;cases r with
  |nil=>simp [z0E]at hx
  |cons a r=>
   obtain rfl:a.1=y:=by injection hy
   exact((b3 a.1 rfl).2 x hx).1
 have hkr:∀x∈z0E r,Lt lo x.1:=by
  intro x hx;cases r with
  |nil=>simp [z0E]at hx
  |cons a r=>exact z14 (h5 a.1 rfl) (hr x hx a.1 rfl)
 refine⟨hl,hr,?_⟩;rw [z6c];exact⟨a2,List.Pairwise.cons hkr b2,fun x hx y hy=>by
  rcases y9.1 hy with rfl|hy
  .exact hl x hx
  .exact(hl x hx).trans (hkr y hy)⟩
theorem zI9{id:Nat}{l r:List (Kid j)}{k:Key}{up:Cx (j+1) D}{lo:Key}{hi:Option Key}(w:(Cx.step id l k r up).WfC lo hi){s:Key}(h1:Lt k s)(h2:∀y,hi=some y->Lt s y)(o:Nat):
 z15 (z08 l k h r) (s,z0C o)=(false,0,z0E l++(k,z0C h)::(s,z0C o)::z0E r):=by
 obtain⟨a1,a2,_⟩:=w.lt_lead (h:=h);unfold z15 z08;simp only;have e:z0E l++(k,z0C h)::z0E r=(z0E l++ [(k,z0C h)])++z0E r:=by simp
 rw [e,zHt]
 .simp
 .intro x hx;rcases yF.1 hx with hx|hx
  .exact(a1 x hx).trans h1
  .obtain rfl:=yJ.1 hx;exact h1
 .intro x hx;obtain⟨_,lo',hi',_,rfl,_⟩:=w;cases r with
  |nil=>simp [z0E]at hx
  |cons a r=>exact z14 (h2 a.1 rfl) (a2 x hx a.1 rfl)
theorem z7A{Q:Prm}(hQ:Q.Ok)(j:Nat):z7p Q j<=4/\1<=z7p Q j/\(j=0->z7p Q j<=2):=by
 have h1:=hQ.a1;have h2:=hQ.a2;have h3:=hQ.m2;have h4:=hQ.m4;cases j with
 |zero=>simp only [z7p];omega
 |succ j=>simp only [z7p];omega
structure Halfs(Q:Prm){j:Nat}(t:Ct j)(lo:Key)(hi:Option Key)(m:Nat)(s:Key):Prop where
 key:∀o:Nat,s=(cellAt (Ct.page j (ctR j t m)).2.2 0).1
 wl:∀o,Wf j lo (some s) (ctL j t m o)
 wr:Wf j s hi (ctR j t m)
 ls:Lt lo s
 sh:∀y,hi=some y->Lt s y
 okL:∀o,o<=256->POk (Ct.page j (ctL j t m o))
 okR:POk (Ct.page j (ctR j t m))
 kL:∀o,o<90->KOk Q.K (Ct.page j (ctL j t m o))
 kR:KOk Q.K (Ct.page j (ctR j t m))
 flL:∀o,FlT Q j (ctL j t m o)
 flR:FlT Q j (ctR j t m)
 sK:s.length<=Q.K
 lne:∀o,0<(Ct.lvs j o (ctR j t m)).length
 n7:0<j->Q.K<=139->(∀o,7<=Ct.n j (ctL j t m o))/\7<=Ct.n j (ctR j t m)/\15<=Ct.n j t
 sum:∀o,Ct.n j (ctL j t m o)+Ct.n j (ctR j t m)=Ct.n j t
theorem z6H{Q:Prm}(hQ:Q.Ok){t:Ct j}{lo:Key}{hi:Option Key}(hw:Wf j lo hi t)(hb:Big Q.K (Ct.page j t))(hone:(Ct.page j t).1=false->∀x∈(Ct.page j t).2.2,x.2.length=1)
 (hfl:FlIn Q j t) (hs:2048<szP (Ct.page j t)) (h26:szP (Ct.page j t)<=2600):∃s,Halfs Q t lo hi (z0c (Ct.page j t).2.2) s:=by
 obtain⟨b1,b2,b3,b4,b5,b6,b7,b8,b9⟩:=hb.halves hQ.K hs h26 hone;have hn:=Ct.n_page j t;obtain⟨m,hm⟩:∃m,z0c (Ct.page j t).2.2=m:=⟨_,rfl⟩;rw [hm]at b2 b3 b4 b5 b6 b7 b8 b9 ⊢;obtain⟨s,hs0,w1,w2,w3,w4⟩:=ct_wf (j:=j) 0 hw b3 (by omega);have hkey:∀o:Nat,s=(cellAt (Ct.page j (ctR j t m)).2.2 0).1:=fun o=>by rw [z3Y];exact hs0
 have hleaf:(Ct.page j t).1=false↔0<j:=by cases j<;>simp [Ct.page]
 have hc:=ct_n j t m;have htl:∀o,(Ct.n j (ctL j t m o))=((Ct.page j t).2.2.take m).length:=fun o=>by rw [(hc o).1,yC,hn]
 have htr:(Ct.n j (ctR j t m))=((Ct.page j t).2.2.drop m).length:=by rw [(hc 0).2,yI,hn]
 have hmin:=z7A hQ j;have hfl2:=fun o=>zJJ hfl m o
 have flR:FlT Q j (ctR j t m):=by
  rw [z1S];refine⟨?_,(hfl2 0).2⟩;rw [htr];rcases Y3 j with h0|h0
  .have:=hmin.2.2 h0;omega
  .have:=b8 (hleaf.2 h0);omega
 refine⟨s,hkey,fun o=> ?_,w2,w3,w4,fun o ho=> ?_,?_,fun o ho=> ?_,?_,fun o=> ?_,flR,?_,fun o=> ?_,fun h0 hK=> ?_,fun o=> ?_⟩
 .obtain⟨s',hs',w1',_⟩:=ct_wf (j:=j) o hw b3 (by omega);rw [hs0,<-hs'];exact w1'
 .rw [z59];have:=(b5 (if(Ct.page j t).1=true then o else(Ct.page j t).2.1) (by split;exact ho;exact hb.next)).1;exact this
 .rw [z3Y];exact(b5 _ hb.next).2
 .rw [z59];refine⟨?_,fun x hx=>hb.key.2 x (yY hx)⟩;show(if(Ct.page j t).1=true then o else(Ct.page j t).2.1)<90
  split
  .exact ho
  .exact hb.key.1
 .rw [z3Y];exact⟨hb.key.1,fun x hx=>hb.key.2 x (yo hx)⟩
 .rw [z1S];refine⟨?_,(hfl2 o).1⟩;rw [htl];rcases Y3 j with h0|h0
  .have:=hmin.2.2 h0;omega
  .have:=b8 (hleaf.2 h0);omega
 .have e:=hkey 0;rw [z3Y]at e;rw [e];have hd:0<((Ct.page j t).2.2.drop m).length:=by omega
  have:cellAt ((Ct.page j t).2.2.drop m) 0=((Ct.page j t).2.2.drop m)[0]:=by
   unfold cellAt;rw [yK hd];rfl
  rw [this];exact hb.key.2 _ (yo (yQ hd))
 .have:=(z1S Q j _).1 flR;exact zIq j o _ (fun h0=>by omega) (this.2.weak hQ)
 .have:=b9 (hleaf.2 h0) hK;rw [htr];exact⟨fun o=>by rw [htl];omega,by omega,by omega⟩
 .rw [htl,htr,yC,yI,<-hn];omega
theorem z0R(id:Nat)(l r:List (Kid j))(k:Key)(up:Cx (j+1) D)(h:Nat):(Cx.step id l k r up).pgs h= [(id,z08 l k h r)]++(z0B l++z0B r)++up.pgs id:=rfl
theorem UpK.two{id:Nat}{l r:List (Kid j)}{k:Key}{up:Cx (j+1) D}(hQ:Q.Ok)(u:UpK Q (.step id l k r up) h t){lo:Key}{hi:Option Key}(w1:(Cx.step id l k r up).WfC lo hi){m:Nat}{s:Key}(H:Halfs Q t lo hi m s){o:Nat}(n2:o<90)(h9:h<90):
 z15 (z08 l k h r) (s,z0C o)=Ct.page (j+1) (z4z l k h t r o m s)/\UpJ Q up id (z4z l k h t r o m s)/\szP (Ct.page (j+1) (z4z l k h t r o m s))<=2600:=by
 have hlok:lo=k:=by obtain⟨rfl,_⟩:=w1;rfl
 have e2:z15 (z08 l k h r) (s,z0C o)=Ct.page (j+1) (z4z l k h t r o m s):=by
  rw [zI9 w1 (by rw [<-hlok];exact H.ls) H.sh,zGS]
 have okL:=H.okL o (by omega);have hR:=H.okR;have hst:POk (z08 l k h r)/\KOk Q.K (z08 l k h r):=u.ok (id,z08 l k h r) (by rw [z0R];simp);have hbig:Big Q.K (Ct.page (j+1) (z4z l k h t r o m s))/\szP (Ct.page (j+1) (z4z l k h t r o m s))<=2600:=by
  have hb0:=hst.1.big hst.2;have hz:=hst.1.parts.2.2;have hone:(z0C o).length=1:=z5o n2;have hK:=hQ.K;have hsK:=H.sK;have hb:=hb0.put (by omega) (s:=(s,z0C o)) (by show s.length+(z0C o).length<=480;omega) hsK;rw [<-e2];refine⟨hb,?_⟩;have h1:=hb.sz;have h2:=hb0.sz;have h3:=z6i (z08 l k h r).2.2 (s,z0C o);have h4:=z54 (k:=s) (i:=o) hsK hK n2;have h5:(z15 (z08 l k h r) (s,z0C o)).2.2=putC (z08 l k h r).2.2 (s,z0C o):=rfl;rw [h5]at h1;omega
 obtain⟨c1,c2,c4⟩:=u.cfk;obtain⟨c5,c6⟩:=(up.FlC_iff Q).1 c4;have hroot:=u.root;refine⟨e2,⟨?_,c6⟩,hbig.2⟩;obtain⟨q1,lo',hi',q2,q3,q4,q5,q6,q7⟩:=w1;have hsubs:∀q,q∈Ct.subs j (ctL j t m o)∨q∈Ct.subs j (ctR j t m)->q∈Ct.subs j t:=fun q hq=>by rw [<-z3Z j t m o];simpa using hq
 refine⟨hroot.2,⟨lo',hi',q2,?_,?_⟩,?_,hbig.1,?_,c5,?_,?_⟩
 .show z1E (l++(k,(h,ctL j t m o))::(s,(o,ctR j t m))::r) none=some lo';rw [z2F];exact q4
 .show WfL (Wf j) (l++(k,(h,ctL j t m o))::(s,(o,ctR j t m))::r) hi';rw [z3A];subst q1;refine⟨q5,H.wl o,fun y hy=>(by injection hy with hy;subst hy;exact H.ls),?_,?_,q7⟩
  .show Wf j s (z1E r hi') (ctR j t m);rw [<-q3];exact H.wr
  .rw [<-q3];exact H.sh
 .intro q hq;rw [z2o]at hq;have old:∀q,q∈up.pgs id∨q∈z0B l∨q∈z0B r∨q∈Ct.subs j t->POk q.2/\KOk Q.K q.2:=fun q hq=>u.ok q (by rw [z0R];simp only [yF];rcases hq with hq|hq|hq|hq<;>simp [hq])
  simp only [yF,y9]at hq;rcases hq with hq|hq|(rfl|hq)|(rfl|hq)|hq
  .exact old q (.inl hq)
  .exact old q (.inr (.inl hq))
  .exact⟨okL,H.kL o n2⟩
  .exact old q (.inr (.inr (.inr (hsubs q (.inl hq)))))
  .exact⟨hR,H.kR⟩
  .exact old q (.inr (.inr (.inr (hsubs q (.inr hq)))))
  .exact old q (.inr (.inr (.inl hq)))
 .rw [zIJ];have hch:=u.ch;rw [Cx.ll,Cx.lr]at hch;have:=zCL (A:=up.ll++z4x l) (B:=z4x r++up.lr) (e:=0) (k:=m) (o:=o) (H.lne o) hch;simpa only [yM]using this
 .show FlL Q (l++(k,(h,ctL j t m o))::(s,(o,ctR j t m))::r);rw [z4i,z0l,z0l];exact⟨c1,H.flL o,H.flR,c2⟩
 .intro q hq;have old:∀q,q∈up.pgs id∨q∈z0B l∨q∈z0B r∨q∈Ct.subs j t->q.1<90:=fun q hq=>u.i90 q (by rw [z0R];simp only [yF];rcases hq with hq|hq|hq|hq<;>simp [hq])
  rw [z2o]at hq;simp only [yF,y9]at hq;rcases hq with hq|hq|(rfl|hq)|(rfl|hq)|hq
  .exact old q (.inl hq)
  .exact old q (.inr (.inl hq))
  .exact h9
  .exact old q (.inr (.inr (.inr (hsubs q (.inl hq)))))
  .exact n2
  .exact old q (.inr (.inr (.inr (hsubs q (.inr hq)))))
  .exact old q (.inr (.inr (.inl hq)))
theorem UpI.split{id:Nat}{l r:List (Kid j)}{k:Key}{up:Cx (j+1) D}(hQ:Q.Ok)(u:UpI Q P c (.step id l k r up) h t st)(hs:2048<szP (Ct.page j t))(h26:szP (Ct.page j t)<=2600)(hf:z2s (.step id l k r up) h t<90):
 ∃o s,(z1t P (h:Int) (Ct.page j t) ⟨(id:Int),l.length,z08 l k h r⟩).2=Ct.page (j+1) (z4z l k h t r o (z0c (Ct.page j t).2.2) s)/\
  UpI Q (z1t P (h:Int) (Ct.page j t) ⟨(id:Int),l.length,z08 l k h r⟩).1 c up id (z4z l k h t r o (z0c (Ct.page j t).2.2) s) (z08 l k h r)/\
  (∃lo hi,Halfs Q t lo hi (z0c (Ct.page j t).2.2) s)/\szP (Ct.page (j+1) (z4z l k h t r o (z0c (Ct.page j t).2.2) s))<=2600/\
  z2s up id (z4z l k h t r o (z0c (Ct.page j t).2.2) s)=z2s (.step id l k r up) h t+1/\up.need Q<=Ct.n (j+1) (z4z l k h t r o (z0c (Ct.page j t).2.2) s):=by
 obtain⟨lo,hi,w1,w2⟩:=u.wf;obtain⟨s,H⟩:=z6H hQ w2 u.big u.one u.fl hs h26;obtain⟨m,hm⟩:∃m,z0c (Ct.page j t).2.2=m:=⟨_,rfl⟩;rw [hm]at H ⊢;have eR:z9e (Ct.page j t)=Ct.page j (ctR j t m):=by rw [zEl,<-hm];rfl
 have hR:=H.okR;have hlen:(Cx.pgs (.step id l k r up) h++(h,st)::Ct.subs j t).length<90:=by
  unfold z2s at hf;simp only [y6,y8];omega
 obtain⟨n1,n2,n3⟩:=u.rep.al hlen hR;obtain⟨o,ho⟩:∃o,(P.al (Ct.page j (ctR j t m))).2=o:=⟨_,rfl⟩;obtain⟨P1,hP1⟩:∃P1,(P.al (Ct.page j (ctR j t m))).1=P1:=⟨_,rfl⟩;rw [ho]at n1 n2 n3;rw [hP1]at n3;have eL:z4b (zB0 (Ct.page j t)) (Ct.page j t).1 o=Ct.page j (ctL j t m o):=by rw [z59,<-hm];rfl
 obtain⟨t1,t2,t3⟩:=u.toUpK.two hQ w1 H n2 u.lt;have t4:=u.cok;have e1:(z1t P (h:Int) (Ct.page j t) ⟨(id:Int),l.length,z08 l k h r⟩).1=P1.wp (h:Int) (Ct.page j (ctL j t m o)):=by
  unfold z1t;simp only;rw [eR,ho,hP1,eL]
 have e2:(z1t P (h:Int) (Ct.page j t) ⟨(id:Int),l.length,z08 l k h r⟩).2=Ct.page (j+1) (z4z l k h t r o m s):=by
  unfold z1t;simp only;rw [eR,ho,<-H.key o,t1]
 refine⟨o,s,e2,⟨t2,?_⟩,⟨lo,hi,H⟩,t3,?_,by rw [zGR];have t5:up.need Q<=l.length+1+r.length:=t4;omega⟩
 .rw [e1];have r1:RepP P1 c ((h,st)::((o,Ct.page j (ctR j t m))::((Cx.step id l k r up).pgs h++Ct.subs j t))):=n3.perm (z0a fun a=>by simp only [YY,YV];omega);refine(r1.wp (H.okL o (by omega))).perm ?_;rw [z2o,z0R,<-z3Z j t m o];refine z0a fun a=> ?_
  simp only [YY,YV,QD];omega
 .unfold z2s;rw [z2o,z0R,<-z3Z j t m o];simp only [y6,y8,yW];omega
end
def z1f{j:Nat}(f:Ct j->Nat):List (Kid j)->Nat
 | []=>0
 |k::r=>f k.2.2+z1f f r
def wS(wt:Nat->Nat->Nat):(j:Nat)->Ct j->Nat
 |0,c=>wt 0 c.2.length
 |j+1,ks=>wt (j+1) (List.length (α:=Kid j) ks)+z1f (j:=j) (wS wt j) ks
def Cx.wS(wt:Nat->Nat->Nat):{j D:Nat}->Cx j D->Nat
 |_,_,.top=>0
 |_,_,.step (j:=j) _ l _ r up=>wt (j+1) (l.length+1+r.length)+z1f (Go.Proofs.YthnlcbamjehpdaaGreatDoor.wS wt j) l+z1f (Go.Proofs.YthnlcbamjehpdaaGreatDoor.wS wt j) r+up.wS wt
theorem z6R{j:Nat}(f:Ct j->Nat):∀ (l r:List (Kid j)),z1f f (l++r)=z1f f l+z1f f r
 | [],r=>by simp [z1f]
 |k::l,r=>by
  show f k.2.2+z1f f (l++r)=f k.2.2+z1f f l+z1f f r;rw [z6R f l r];omega
theorem z4C(wt:Nat->Nat->Nat):∀ {j D:Nat} (cx:Cx j D) (h:Nat) (t:Ct j),wS wt D (cx.plug h t)=cx.wS wt+wS wt j t
 |_,_,.top,h,t=>by simp [Cx.plug,Cx.wS]
 |_,_,.step (j:=j) id l k r up,h,t=>by
  rw [Cx.plug,z4C wt up,Cx.wS];show up.wS wt+(wt (j+1) (l++(k,(h,t))::r).length+z1f (wS wt j) (l++(k,(h,t))::r))=_;rw [z6R,y6,y8];show up.wS wt+(wt (j+1) (l.length+(r.length+1))+(z1f (wS wt j) l+(wS wt j t+z1f (wS wt j) r)))=_;rw [show l.length+(r.length+1)=l.length+1+r.length by omega];omega
theorem zGn(wt:Nat->Nat->Nat){j:Nat}(l:List (Kid j))(k:Key)(h:Nat)(t:Ct j)(r:List (Kid j))(o m:Nat)(s:Key):
 wS wt (j+1) (z4z l k h t r o m s)=wt (j+1) (l.length+1+r.length+1)+z1f (wS wt j) l+z1f (wS wt j) r+wS wt j (ctL j t m o)+wS wt j (ctR j t m):=by
 show wt (j+1) (l++(k,(h,ctL j t m o))::(s,(o,ctR j t m))::r).length+z1f (wS wt j) (l++(k,(h,ctL j t m o))::(s,(o,ctR j t m))::r)=_;rw [z6R,y6,y8,y8];show wt (j+1) (l.length+(r.length+1+1))+(z1f (wS wt j) l+(wS wt j (ctL j t m o)+(wS wt j (ctR j t m)+z1f (wS wt j) r)))=_;rw [show l.length+(r.length+1+1)=l.length+1+r.length+1 by omega];omega
theorem z5s(wt:Nat->Nat->Nat){j:Nat}(t:Ct j)(o m:Nat):
 wS wt j (ctL j t m o)+wS wt j (ctR j t m)+wt j (Ct.n j t)=wS wt j t+wt j (Ct.n j (ctL j t m o))+wt j (Ct.n j (ctR j t m)):=by
 cases j with
 |zero=>
  show wt 0 (t.2.take m).length+wt 0 (t.2.drop m).length+wt 0 t.2.length=wt 0 t.2.length+wt 0 (t.2.take m).length+wt 0 (t.2.drop m).length;omega
 |succ j=>
  have e:z1f (wS wt j) (List.take m t)+z1f (wS wt j) (List.drop m t)=z1f (wS wt j) t:=by rw [<-z6R,yT]
  show wt (j+1) (List.length (List.take m t))+z1f (wS wt j) (List.take m t)+(wt (j+1) (List.length (List.drop m t))+z1f (wS wt j) (List.drop m t))+wt (j+1) (List.length (α:=Kid j) t)=
   wt (j+1) (List.length (α:=Kid j) t)+z1f (wS wt j) t+wt (j+1) (List.length (List.take m t))+wt (j+1) (List.length (List.drop m t))
  omega
def z9m(h _:Nat):Nat:=if h<=1 then 1 else 0
def wHi(h _:Nat):Nat:=if 2<=h then 1 else 0
def z4V(h n:Nat):Nat:=if h=2/\7<=n then 1 else 0
theorem zD3(wt wt' wt'':Nat->Nat->Nat)(hw:∀h n,wt h n+wt' h n=wt'' h n):∀ (j:Nat) (t:Ct j),wS wt j t+wS wt' j t=wS wt'' j t
 |0,t=>hw 0 _
 |j+1,ks=>by
  have ih:=zD3 wt wt' wt'' hw j;have hs:∀l:List (Kid j),z1f (wS wt j) l+z1f (wS wt' j) l=z1f (wS wt'' j) l:=fun l=>by
   induction l with
   |nil=>rfl
   |cons k l il=>
    show wS wt j k.2.2+z1f (wS wt j) l+(wS wt' j k.2.2+z1f (wS wt' j) l)=wS wt'' j k.2.2+z1f (wS wt'' j) l;have:=ih k.2.2;omega
  show wt (j+1) (List.length (α:=Kid j) ks)+z1f (wS wt j) ks+(wt' (j+1) (List.length (α:=Kid j) ks)+z1f (wS wt' j) ks)=wt'' (j+1) (List.length (α:=Kid j) ks)+z1f (wS wt'' j) ks;have h1:=hw (j+1) (List.length (α:=Kid j) ks);have h2:=hs ks;omega
theorem z5t:∀ (j:Nat) (t:Ct j),wS (fun _ _=>1) j t=1+(Ct.subs j t).length
 |0,t=>rfl
 |j+1,ks=>by
  have ih:=z5t j;have hs:∀l:List (Kid j),z1f (wS (fun _ _=>1) j) l=(z0B l).length:=fun l=>by
   induction l with
   |nil=>rfl
   |cons k l il=>
    show wS (fun _ _=>1) j k.2.2+z1f (wS (fun _ _=>1) j) l=_;rw [z04,y6,y8,ih,il];omega
  show 1+z1f (wS (fun _ _=>1) j) ks=1+(z0B ks).length;rw [hs]
theorem zFb(D:Nat)(t:Ct D):wS z9m D t+wS wHi D t=1+(Ct.subs D t).length:=by
 rw [<-z5t];refine zD3 _ _ _ (fun h n=> ?_) D t;unfold z9m wHi
 split<;>split<;>omega
theorem z9f{Q:Prm}(hQ:Q.Ok):∀ (j:Nat) (t:Ct j),FlT Q j t->(0<j->3<=1+(Ct.subs j t).length)/\(1<j->7<=1+(Ct.subs j t).length)
 |0,t,_=>⟨fun h=>by omega,fun h=>by omega⟩
 |j+1,ks,hf=>by
  rw [z1S]at hf;have hn:2<=List.length (α:=Kid j) ks:=by have h1:=hf.1;have h2:=hQ.m2;exact yD h2 h1
  have hall:FlL Q ks:=hf.2;have hs:∀b,∀l:List (Kid j),(∀k∈l,b<=1+(Ct.subs j k.2.2).length)->b*l.length<=(z0B l).length:=fun b l=>by
   induction l with
   |nil=>intro _;simp
   |cons k l il=>
    intro h;rw [z04,y6,y8,y8,Qk];have h1:=il fun x hx=>h x (by simp [hx])
    have h2:=h k (by simp);omega
  have e:(Ct.subs (j+1) ks).length=(z0B ks).length:=rfl;refine⟨fun _=> ?_,fun hj=> ?_⟩
  .have:=hs 1 ks fun k _=>by omega
   rw [e];omega
  .have:=hs 3 ks fun k hk=>(z9f hQ j k.2.2 (hall k hk)).1 (by omega)
   rw [e];omega
theorem z6Q{Q:Prm}(hQ:Q.Ok){j:Nat}(ks:List (Kid j))(h:FlL Q ks)(h0:1<j):7*ks.length<=(z0B ks).length:=by
 induction ks with
 |nil=>simp
 |cons k l il=>
  rw [z04,y6,y8,y8,Qk];have h1:=il (z0l.1 h).2;have h2:=(z9f hQ j k.2.2 (z0l.1 h).1).2 h0;omega
section
variable {Q:Prm} {P:Pgr} {c:Int->List UInt8} {j D:Nat} {h:Nat} {t:Ct j} {st:Pag}
theorem zFR(j:Nat)(t:Ct j)(h h' e:Nat)(hc:z88 (Ct.lvs j h t) e):z88 (Ct.lvs j h' t) e:=by
 cases j with
 |zero=>exact hc
 |succ j=>exact hc
def z9R{j:Nat}(t:Ct j)(a b m:Nat)(s:Key):Ct (j+1):=([([],(a,ctL j t m b)),(s,(b,ctR j t m))]:List (Kid j))
theorem UpI.rootS(hQ:Q.Ok)(u:UpI Q P c (Cx.top (D:=j)) h t st)(hs:2048<szP (Ct.page j t))(h26:szP (Ct.page j t)<=2600)(hf:z2s (Cx.top (D:=j)) h t+2<=90):
 ∃a b s,Tree Q (z9T P (Ct.page j t)) c (j+1) (z9R t a b (z0c (Ct.page j t).2.2) s)/\(∃lo hi,Halfs Q t lo hi (z0c (Ct.page j t).2.2) s):=by
 obtain⟨lo,hi,w1,w2⟩:=u.wf;obtain⟨s,H⟩:=z6H hQ w2 u.big u.one u.fl hs h26;obtain⟨m,hm⟩:∃m,z0c (Ct.page j t).2.2=m:=⟨_,rfl⟩;rw [hm]at H ⊢;obtain rfl:h=0:=u.root;obtain⟨rfl,rfl⟩:=w1;have eR:zBk (Ct.page j t)=Ct.page j (ctR j t m):=by rw [z3Y,<-hm];rfl
 have hR:=H.okR;have rep0:RepP P c ((0,st)::Ct.subs j t):=u.rep;unfold z2s at hf;have hf:0+1+(Ct.subs j t).length+2<=90:=hf;obtain⟨n1,n2,n3⟩:=rep0.al (by simp only [y8];omega) hR;obtain⟨b,ho⟩:∃b,(P.al (Ct.page j (ctR j t m))).2=b:=⟨_,rfl⟩;obtain⟨P1,hP1⟩:∃P1,(P.al (Ct.page j (ctR j t m))).1=P1:=⟨_,rfl⟩;rw [ho]at n1 n2 n3;rw [hP1]at n3;have eL:z4b (zB0 (Ct.page j t)) (Ct.page j t).1 b=Ct.page j (ctL j t m b):=by rw [z59,<-hm];rfl
 have hL:=H.okL b (by omega);obtain⟨n4,n5,n6⟩:=n3.al (by simp only [y8];omega) hL;obtain⟨a,ha⟩:∃a,(P1.al (Ct.page j (ctL j t m b))).2=a:=⟨_,rfl⟩;obtain⟨P2,hP2⟩:∃P2,(P1.al (Ct.page j (ctL j t m b))).1=P2:=⟨_,rfl⟩;rw [ha]at n4 n5 n6;rw [hP2]at n6;have hpg:Ct.page (j+1) (z9R t a b m s)=(false,0,[([],z0C a),(s,z0C b)]):=rfl;have e1:z9T P (Ct.page j t)=P2.wp ((0:Nat):Int) (Ct.page (j+1) (z9R t a b m s)):=by
  unfold z9T;rw [eR,ho,hP1,eL,ha,hP2,hpg,<-H.key b];rfl
 have la:=z5o n5;have lb:=z5o n2;have hsK:=H.sK;have hK:=hQ.K;have hasc:Asc [(([]:Key),z0C a),(s,z0C b)]:=by
  refine List.Pairwise.cons (fun x hx=> ?_) (List.Pairwise.cons (fun x hx=>by cases hx) List.Pairwise.nil);obtain rfl:=yJ.1 hx;exact H.ls
 have ok:POk (Ct.page (j+1) (z9R t a b m s)):=by
  rw [hpg];refine POk.mk' (by simp) (z3y hasc fun x hx=> ?_) ?_
  .simp only [y9,yH,yp]at hx;rcases hx with rfl|rfl
   .simp [la]
   .simp only;omega
  .have h1:=z5f (n:=0) (cs:= [(([]:Key),z0C a),(s,z0C b)]) (by omega) (by simp);have h2:=z54 (k:= []) (i:=a) (K:=Q.K) (by simp) hK n5;have h3:=z54 (k:=s) (i:=b) hsK hK n2;have h4:z07 [(([]:Key),z0C a),(s,z0C b)]=(z3B ([],z0C a)).length+(z3B (s,z0C b)).length:=by simp [z07]
   show z2v ((0:Nat):Int) [(([]:Key),z0C a),(s,z0C b)]<=2048;omega
 have hkey:KOk Q.K (Ct.page (j+1) (z9R t a b m s)):=by
  rw [hpg];refine⟨by simp,fun x hx=> ?_⟩;simp only [y9,yH,yp]at hx;rcases hx with rfl|rfl
  .simp
  .exact hsK
 have hsub:Ct.subs (j+1) (z9R t a b m s)=(a,Ct.page j (ctL j t m b))::Ct.subs j (ctL j t m b)++((b,Ct.page j (ctR j t m))::Ct.subs j (ctR j t m)++ []):=by
  show z0B [(([]:Key),(a,ctL j t m b)),(s,(b,ctR j t m))]=_;rw [z04,z04];rfl
 refine⟨a,b,s,⟨?_,⟨rfl,?_⟩,?_,?_,?_,?_⟩,⟨_,_,H⟩⟩
 .rw [e1];have r1:RepP P2 c ((0,st)::((a,Ct.page j (ctL j t m b))::(b,Ct.page j (ctR j t m))::Ct.subs j t)):=n6.perm (z0a fun x=>by simp only [YY];omega);refine(r1.wp ok).perm ?_;unfold z8q;rw [hsub,<-z3Z j t m b];refine z0a fun x=> ?_
  simp only [YY,YV,QD];omega
 .show WfL (Wf j) [(([]:Key),(a,ctL j t m b)),(s,(b,ctR j t m))] none;exact⟨H.wl b,fun y hy=>(by injection hy with hy;subst hy;exact H.ls),H.wr,H.sh,trivial⟩
 .intro q hq;unfold z8q at hq;rw [hsub]at hq;simp only [yF,y9,yH,yp]at hq;have ht:∀q,q∈Ct.subs j (ctL j t m b)∨q∈Ct.subs j (ctR j t m)->q∈Ct.subs j t:=fun q hq=>by rw [<-z3Z j t m b];simpa using hq
  rcases hq with rfl|(rfl|hq)|(rfl|hq)
  .exact⟨ok,hkey⟩
  .exact⟨hL,H.kL b n2⟩
  .exact u.ok q (by simp [ht q (.inl hq)])
  .exact⟨hR,H.kR⟩
  .exact u.ok q (by simp [ht q (.inr hq)])
 .show z88 (z4x [(([]:Key),(a,ctL j t m b)),(s,(b,ctR j t m))]) 0;rw [z1U,z1U];have hch:z88 ([]++Ct.lvs j a t++ []) 0:=by
   have h0:=u.ch;simp only [Cx.ll,Cx.lr,yz,yf]at h0 ⊢;exact zFR j t 0 a 0 h0
  have:=zCL (A:= []) (B:= []) (k:=m) (o:=b) (h:=a) (e:=0) (H.lne b) hch;simpa [z4x]using this
 .show FlL Q [(([]:Key),(a,ctL j t m b)),(s,(b,ctR j t m))];rw [z0l,z0l];exact⟨H.flL b,H.flR,fun k hk=>by cases hk⟩
 .exact y5 2
theorem zBz(wt:Nat->Nat->Nat)(t:Ct j)(a b m:Nat)(s:Key):wS wt (j+1) (z9R t a b m s)=wt (j+1) 2+wS wt j (ctL j t m b)+wS wt j (ctR j t m):=by
 show wt (j+1) 2+(wS wt j (ctL j t m b)+(wS wt j (ctR j t m)+0))=_;omega
theorem z8h(t:Ct j)(a b m:Nat)(s:Key):Ct.cells (j+1) (z9R t a b m s)=Ct.cells j t:=by
 show z0d [(([]:Key),(a,ctL j t m b)),(s,(b,ctR j t m))]=_;rw [z0g,z0g,<-yM,zCK];simp [z0d]
theorem zAg(t:Ct j)(a b m:Nat)(s:Key):(Ct.subs (j+1) (z9R t a b m s)).length=2+(Ct.subs j t).length:=by
 show(z0B [(([]:Key),(a,ctL j t m b)),(s,(b,ctR j t m))]).length=_;rw [z04,z04,<-z3Z j t m b];simp only [y6,y8,z0B,YZ,yW];omega
theorem z57{j D:Nat}(cx:Cx j D)(h:Nat)(t:Ct j)(hr:cx.root h):1+(Ct.subs D (cx.plug h t)).length=z2s cx h t:=by
 have:=(z32 cx h t hr).length_eq;rw [y6,y8,y8]at this;unfold z2s;omega
theorem Kin.upS(P:Pgr)(id:Int)(x:Pag)(s:TStp):Kin P (z1t P id x s).1:=(Kin.al P _).trans (Kin.wp _ _ _)
theorem Kin.root(P:Pgr)(x:Pag):Kin P (z9T P x):=((Kin.al P _).trans (Kin.al _ _)).trans (Kin.wp _ _ _)
theorem Kin.up:∀ (ws:List TStp) (P:Pgr) (id:Int) (x:Pag),Kin P (upP P ws id x)
 | [],P,id,x=>by
   rw [upP]
   split
   .exact Kin.wp _ _ _
   .split
    .exact Kin.root _ _
    .exact Kin.refl _
 |s::r,P,id,x=>by
  rw [upP]
  split
  .exact Kin.wp _ _ _
  .split
   .exact Kin.root _ _
   .exact(Kin.upS P id x s).trans (Kin.up r _ _ _)
structure UpR(Q:Prm)(P':Pgr)(c:Int->List UInt8)(D:Nat)(cs:List Cel)(low hi fat more cn rn:Nat)(D':Nat)(t':Ct D'):Prop where
 tree:Tree Q P' c D' t'
 cells:Ct.cells D' t'=cs
 d0:D<=D'
 d1:D'<=D+1
 low:wS z9m D' t'<=low+more
 quo:Q.K<=139->wS wHi D' t'+fat+D<=hi+wS z4V D' t'+D'
 d3:Q.K<=139->3<=D->D'=D
 cnt:1+(Ct.subs D' t').length<=cn
 rt0:D'=D->Ct.n D' t'<=rn+1
 rt1:D'=D+1->Ct.n D' t'=2/\(Q.K<=139->1<=D->14<=rn)
def Cx.rn:{j D:Nat}->Cx j D->Nat->Nat
 |_,_,.top,n=>n
 |_,_,.step _ l _ r up,_=>up.rn (l.length+1+r.length)
theorem z7T:∀ {j D:Nat} (cx:Cx j D) (h:Nat) (t:Ct j),Ct.n D (cx.plug h t)=cx.rn (Ct.n j t)
 |_,_,.top,h,t=>rfl
 |_,_,.step (j:=j) id l k r up,h,t=>by
  rw [Cx.plug,z7T up,Cx.rn]
  congr 1
  show(l++(k,(h,t))::r).length=_;rw [y6,y8];omega
def Cx.dep:{j D:Nat}->Cx j D->Nat
 |_,_,.top=>0
 |_,_,.step _ _ _ _ up=>up.dep+1
theorem Cx.depth:∀ {j D:Nat} (cx:Cx j D),j+cx.dep=D
 |_,_,.top=>rfl
 |j,D,.step _ _ _ _ up=>by
  have:=up.depth;show j+(up.dep+1)=D;omega
theorem zCy{id:Nat}{l r:List (Kid j)}{k:Key}{up:Cx (j+1) D}(o m:Nat)(s:Key):
 up.cl++Ct.cells (j+1) (z4z l k h t r o m s)++up.cr=(Cx.step id l k r up).cl++Ct.cells j t++(Cx.step id l k r up).cr:=by
 rw [z8k,Cx.cl,Cx.cr];simp only [yM]
theorem zKD(hQ:Q.Ok):∀ {j D:Nat} (cx:Cx j D) (h:Nat) (t:Ct j) (st:Pag) (P:Pgr),UpI Q P c cx h t st->cx.need Q<=Ct.n j t->szP (Ct.page j t)<=2600->z2s cx h t+cx.dep+2<=90->
 ∃D' t',UpR Q (upP P (cx.steps h) (h:Int) (Ct.page j t)) c D (cx.cl++Ct.cells j t++cx.cr) (cx.wS z9m+wS z9m j t) (cx.wS wHi+wS wHi j t) (cx.wS z4V+wS z4V j t) (2-j) (z2s cx h t+cx.dep+2) (cx.rn (Ct.n j t)) D' t'/\(cx.dep=0->(D'=D->Ct.n D' t'<=Ct.n j t)/\(D'=D+1->Q.K<=139->1<=D->15<=Ct.n j t))
 |j,_,.top,h,t,st,P,u,hn,h26,hf=>by
  by_cases hs:szP (Ct.page j t)<=2048
  .have e:upP P (Cx.steps (Cx.top (D:=j)) h) (h:Int) (Ct.page j t)=P.wp (h:Int) (Ct.page j t):=by rw [Cx.steps,upP,yB hs]
   rw [e];refine⟨_,_,⟨u.fin hn hs,?_,y5 _,by omega,?_,fun _=> ?_,fun _ _=>rfl,?_,fun _=> ?_,fun h=>by omega⟩,fun h0=>⟨fun _=> ?_,fun h=>by omega⟩⟩
   .exact z29 _ _ _
   .rw [z4C];omega
   .rw [z4C,z4C];omega
   .rw [z57 _ _ _ u.root];omega
   .rw [z7T];omega
   .exact y5 _
  .obtain⟨a,b,s,r1,lo,hi,H⟩:=u.rootS hQ (by omega) h26 (by omega);have e0:h=0:=u.root;have e:upP P (Cx.steps (Cx.top (D:=j)) h) (h:Int) (Ct.page j t)=z9T P (Ct.page j t):=by rw [Cx.steps,upP,yA hs,yB (by omega)]
   rw [e];have h15:Q.K<=139->1<=j->15<=Ct.n j t:=fun hK h0=>(H.n7 h0 hK).2.2
   refine⟨_,_,⟨r1,?_,by omega,by omega,?_,fun hK=> ?_,fun hK h3=> ?_,?_,fun h=>by omega,fun _=>⟨rfl,fun hK h0=> ?_⟩⟩,fun _=>⟨fun h=>by omega,fun _ hK h0=>h15 hK h0⟩⟩
   .rw [z8h];simp [Cx.cl,Cx.cr]
   .rw [zBz];have h1:=z5s z9m t b (z0c (Ct.page j t).2.2);simp only [Cx.wS,z9m]at h1 ⊢;rcases j with _|_|j
    .simp only [yU,YN,Y4,y5]at h1 ⊢;omega
    .simp only [Y4,y5,YN]at h1 ⊢;rw [yA (by omega)];omega
    .rw [yA (by omega)]at h1;rw [yA (by omega)];omega
   .rw [zBz,zBz];have h1:=z5s wHi t b (z0c (Ct.page j t).2.2);have h2:=z5s z4V t b (z0c (Ct.page j t).2.2);have h7:=fun h0=>H.n7 h0 hK
    simp only [Cx.wS,wHi,z4V]at h1 h2 ⊢;rcases j with _|_|_|j
    .simp only [show ¬ (2<=0) by omega,show ¬ (2<=0+1) by omega,show ¬ (0=2) by omega,show ¬ (0+1=2) by omega,Qq,yv]at h1 h2 ⊢;omega
    .simp only [show ¬ (2<=0+1) by omega,show(2<=0+1+1) by omega,show ¬ (0+1=2) by omega,show(0+1+1=2) by omega,show ¬ (7<=2) by omega,Qq,and_false,yv,YN]at h1 h2 ⊢;omega
    .obtain⟨k1,k2,k3⟩:=h7 (by omega);have k1:=k1 b;simp only [show(2<=0+1+1) by omega,show(2<=0+1+1+1) by omega,show(0+1+1=2) by omega,show ¬ (0+1+1+1=2) by omega,true_and,Qq,yv,YN,k1,k2,show 7<=Ct.n (0+1+1) t by omega]at h1 h2 ⊢;omega
    .exfalso;obtain⟨k1,k2,k3⟩:=h7 (by omega);have:=z6Q hQ (j:=j+1+1) t u.fl (by omega);have e:(Ct.subs (j+1+1+1) t).length=(z0B t).length:=rfl;have e2:Ct.n (j+1+1+1) t=List.length t:=rfl;unfold z2s at hf;omega
   .exfalso;obtain⟨j',rfl⟩:∃j',j=j'+1+1+1:=⟨j-3,by omega⟩;obtain⟨k1,k2,k3⟩:=H.n7 (by omega) hK;have:=z6Q hQ (j:=j'+1+1) t u.fl (by omega);have e:(Ct.subs (j'+1+1+1) t).length=(z0B t).length:=rfl;have e2:Ct.n (j'+1+1+1) t=List.length t:=rfl;unfold z2s at hf;omega
   .rw [zAg];show _<=0+1+(Ct.subs j t).length+0+2;omega
   .have:=h15 hK h0;show 14<=Ct.n j t;omega
 |j,D,.step id l k r up,h,t,st,P,u,hn,h26,hf=>by
  by_cases hs:szP (Ct.page j t)<=2048
  .have e:upP P (Cx.steps (Cx.step id l k r up) h) (h:Int) (Ct.page j t)=P.wp (h:Int) (Ct.page j t):=by rw [Cx.steps,upP,yB hs]
   rw [e];refine⟨_,_,⟨u.fin hn hs,?_,y5 _,by omega,?_,fun _=> ?_,fun _ _=>rfl,?_,fun _=> ?_,fun h=>by omega⟩,fun h0=>by cases h0⟩
   .exact z29 _ _ _
   .rw [z4C];omega
   .rw [z4C,z4C];omega
   .rw [z57 _ _ _ u.root];omega
   .rw [z7T];omega
  .have e0:¬ (h:Int)=0:=by have:=u.root.1;omega
   have e:upP P (Cx.steps (Cx.step id l k r up) h) (h:Int) (Ct.page j t)=upP (z1t P (h:Int) (Ct.page j t) ⟨(id:Int),l.length,z08 l k h r⟩).1 (up.steps id) (id:Int) (z1t P (h:Int) (Ct.page j t) ⟨(id:Int),l.length,z08 l k h r⟩).2:=by
    rw [Cx.steps,upP,yA hs,yA e0]
   rw [e];have hd:(Cx.step id l k r up).dep=up.dep+1:=rfl;obtain⟨o,s,e2,u2,⟨lo,hi,H⟩,z2,c2,n2⟩:=u.split hQ (by omega) h26 (by omega);rw [e2];obtain⟨D',t',R,R2⟩:=zKD hQ up id _ _ _ u2 n2 z2 (by omega);rw [zCy (id:=id)]at R;have hn2:=zGR l k h t r o (z0c (Ct.page j t).2.2) s;have hrn:(Cx.step id l k r up).rn (Ct.n j t)=up.rn (l.length+1+r.length):=rfl;have hr0:=R.rt0;have hr1:=R.rt1;rw [hn2]at hr0 hr1 R2;refine⟨D',t',⟨R.tree,R.cells,R.d0,R.d1,?_,fun hK=> ?_,R.d3,by have:=R.cnt;omega,fun h0=> ?_,fun h0=>⟨(hr1 h0).1,fun hK h1=> ?_⟩⟩,fun h0=>by rw [hd]at h0;omega⟩
   rotate_left 2
   .rw [hrn];cases up with
    |top=>exact(R2 rfl).1 h0
    |step=>exact hr0 h0
   .rw [hrn];cases up with
    |top=>have:=(R2 rfl).2 h0 hK h1;show 14<=l.length+1+r.length;omega
    |step=>exact(hr1 h0).2 hK h1
   .have h1:=R.low;rw [zGn]at h1;have h2:=z5s z9m t o (z0c (Ct.page j t).2.2);simp only [Cx.wS];have hl:z9m (j+1) (l.length+1+r.length+1)=z9m (j+1) (l.length+1+r.length):=rfl;have hl2:z9m j (Ct.n j t)=(if j<=1 then 1 else 0):=rfl;have hl3:z9m j (Ct.n j (ctL j t (z0c (Ct.page j t).2.2) o))=(if j<=1 then 1 else 0):=rfl;have hl4:z9m j (Ct.n j (ctR j t (z0c (Ct.page j t).2.2)))=(if j<=1 then 1 else 0):=rfl;rw [hl2,hl3,hl4]at h2;rw [hl]at h1;rcases j with _|_|j
    .simp only [yU,YN]at h2;omega
    .simp only [Y4,y5,YN]at h2;omega
    .rw [yA (by omega)]at h2;omega
   .have h1:=R.quo hK;rw [zGn,zGn]at h1;have h2:=z5s wHi t o (z0c (Ct.page j t).2.2);have h3:=z5s z4V t o (z0c (Ct.page j t).2.2);have h7:=fun h0=>H.n7 h0 hK
    simp only [Cx.wS];have g1:wHi (j+1) (l.length+1+r.length+1)=wHi (j+1) (l.length+1+r.length):=rfl;have g2:z4V (j+1) (l.length+1+r.length)<=z4V (j+1) (l.length+1+r.length+1):=by
     unfold z4V
     split<;>split<;>omega
    rw [g1]at h1;simp only [wHi,z4V]at h2 h3 h1 g2 ⊢;rcases j with _|_|_|j
    .simp only [show ¬ (2<=0) by omega,show ¬ (0=2) by omega,Qq,yv]at h2 h3;omega
    .simp only [show ¬ (2<=0+1) by omega,show ¬ (0+1=2) by omega,Qq,yv]at h2 h3;omega
    .obtain⟨k1,k2,k3⟩:=h7 (by omega);have k1:=k1 o;simp only [show(2<=0+1+1) by omega,show(0+1+1=2) by omega,true_and,YN,k1,k2,show 7<=Ct.n (0+1+1) t by omega]at h2 h3;omega
    .exfalso;obtain⟨k1,k2,k3⟩:=h7 (by omega);have:=z6Q hQ (j:=j+1+1) t u.fl (by omega);have e:(Ct.subs (j+1+1+1) t).length=(z0B t).length:=rfl;have e2:Ct.n (j+1+1+1) t=List.length t:=rfl;unfold z2s at hf;omega
end
end
end Go.Proofs.YthnlcbamjehpdaaGreatDoor
