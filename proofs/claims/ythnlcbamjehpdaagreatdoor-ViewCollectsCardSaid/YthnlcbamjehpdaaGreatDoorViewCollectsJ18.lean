/- Part 18. -/
import Derived.Test.YthnlcbamjehpdaaGreatDoorViewCollectsJ11
import Derived.Test.YthnlcbamjehpdaaGreatDoorViewCollectsJ17
import Derived.Deep.LoopGhost
import Derived.Laws.Bits64
namespace Go.Proofs.YthnlcbamjehpdaaGreatDoor
set_option linter.unusedVariables false
set_option maxHeartbeats 16000000
set_option maxRecDepth 100000
section
open Go Go.RowKit Tryz
structure Dp(w W:World)(h:Zn)(D:Dsk):Prop where
 dk:Dk W h D
 new:∀b,h.has b->w.heap.size<=b
 below:Below w.heap.size w W
set_option linter.unusedSimpArgs false
theorem zAm{p:Pt}{w w':World}(h:zDB p w w'):Turn (fun b=>b=p.g) w w':=by
 obtain⟨cs,cs',h1,_,_,rfl⟩:=h;exact⟨rfl,rfl,rfl,by rw [z2k];exact y5 _,fun b hb hn=>z1T w p.g cs' b hn⟩
end
section
open Go Go.RowKit Tryz
set_option linter.unusedSimpArgs false
def coS(F:Nat->Prop)(ic i:Nat):World->World->Prop:=if i=ic then Turn F else fun w w'=>Below w.heap.size w w'
def coR(F:Nat->Prop)(ic:Nat)(w0:World):RegFr:=⟨coS F ic,fun j=>if j=ic then Below w0.heap.size w0 else Turn F w0,Turn F w0⟩
def VCo(F:Nat->Prop)(ic j:Nat)(V:VP):Prop:=Stays V/\(j≠ic->∀v w w',Turn F w w'->V v w->V v w')
def CoOk(F:Nat->Prop)(ic:Nat):Nat->List VP->Prop
 |_,[]=>True
 |j,V::Vs=>VCo F ic j V/\CoOk F ic (j+1) Vs
theorem coOk{F:Nat->Prop}{ic:Nat}:∀ {Vs:List VP} {n:Nat},CoOk F ic n Vs->∀j,j<Vs.length->VCo F ic (n+j) (vAt Vs j)
 |V::Vs,n,h,0,_=>h.1
 |V::Vs,n,h,j+1,hj=>by
  have:=coOk h.2 j (by simp only [y8]at hj;omega);rw [show n+1+j=n+(j+1)from by omega]at this;exact this
theorem VCo.is(F:Nat->Prop)(ic j:Nat)(c:Value):VCo F ic j (Is c):=⟨Stays.is c,fun _ _ _ _ _ h=>h⟩
section
variable {P:Program} {ops:Array Oper} {F:Nat->Prop} {ic:Nat} {w0:World}
theorem zCI:coS F ic ic=Turn F:=by unfold coS;rw [yB rfl]
theorem z8x{i:Nat}(h:i≠ic):coS F ic i=fun w w'=>Below w.heap.size w w':=by unfold coS;rw [yA h]
theorem zEg{i:Nat}{w w':World}(hS:coS F ic i w w')(hE:Turn F w0 w):Turn F w0 w':=by
 unfold coS at hS
 split at hS
 .exact hE.trans hS fun b hb=> .inl hb
 .exact hE.trans (Turn.of_below (F:=F) hS) fun b hb=> .inl hb
theorem coR_ok{Vs:List VP}(hlen:Vs.length=ops.size)(h:CoOk F ic 0 Vs):(coR F ic w0).Ok ops Vs:=by
 refine⟨fun i j hi hj hne hwt x w w' hS hv=> ?_,fun i j hi hj hne hwt w w' hS hC=> ?_,fun i hi w w' hS hE=>zEg hS hE⟩
 .have h1:=coOk h j (by omega);rw [Y4]at h1;have hS:coS F ic i w w':=hS;by_cases h2:i=ic
  .subst h2;rw [zCI]at hS;exact h1.2 (Ne.symm hne) x w w' hS hv
  .rw [z8x h2]at hS;exact h1.1 x w w' hS hv
 .have hS:coS F ic i w w':=hS;simp only [coR]at hC ⊢;by_cases hj2:j=ic
  .subst hj2;rw [yB rfl]at hC ⊢;rw [z8x hne]at hS;exact hC.trans (Below.mono hS hC.size)
  .rw [yA hj2]at hC ⊢;exact zEg hS hC
theorem z63{id:Nat}{Q':Exit->Act->World->Prop}{l:List Oper}{a0:Act}(F:Nat->Prop)(ic:Nat)(hm:P.follows .mixedOrders=true)(hg:z3C l.toArray=true)
 (h:∃Vs,z1R P l.toArray (coR F ic w0) (fun a w=>Q' .normal a w) l Vs [] a0/\CoOk F ic 0 Vs/\Vs.length=l.length):(Code.region id l.toArray true).wp P Q' a0 w0:=by
 obtain⟨Vs,h0,hS,hlen⟩:=h;refine z3o l hm hg (coR_ok (by simpa using hlen) hS) hlen ((Turn.refl _ _).drew) (fun j _=> ?_) h0;simp only [coR]
 split
 .exact(y7 _ _).drew
 .exact(Turn.refl _ _).drew
section
variable {Q:Act->World->Prop} {a:Act} {o:Oper} {rest:List Oper} {Vs:List VP} {env:List (Value×VP)}
theorem z7k{V:VP}(hw:Region.wanted o (yielded ops a.tmps)=true)(hn:(env.length==ic)=false)
 (h1:∀w,Turn F w0 w->(∀e∈o.after,Region.binds .any e=true->∀ (x:Value) (W:VP),env[e.on]? =some (x,W)->W x w)->z03 P o a w V)
 (h2:∀x,(∃w,Turn F w0 w/\V x w)->∀K:Act->Prop,(∀a',z1R P ops (coR F ic w0) Q rest Vs (env++ [(x,V)]) a'->K a')->K (a.put o.dst x)):z1R P ops (coR F ic w0) Q (o::rest) (V::Vs) env a:=by
 have hn':env.length≠ic:=by simpa using hn
 refine⟨?_,fun x hx=>h2 x hx _ fun _ h=>h⟩;rw [yB hw];intro w hC hf;have hC:Turn F w0 w:=by
  simp only [coR]at hC;rw [yA hn']at hC;exact hC
 have h3:=h1 w hC hf;have eS:(coR F ic w0).S env.length=fun w w'=>Below w.heap.size w w':=z8x hn'
 rw [eS];unfold z03 at h3;unfold steps
 revert h3
 cases (execOp a.eval o).run P w with
 |ok n w'=>
  cases n<;>simp only [z0H,z0i]<;>first|exact fun h=>h|exact fun h=>h.2.mono fun e w'' ⟨v,he,hb,hv⟩=>⟨v,he,z1M h.1 hb,hv⟩
 |halt x w'=>simp only [z0H,z0i];exact fun h=>h
theorem z2O{c:Value}(hw:Region.wanted o (yielded ops a.tmps)=true)(hn:(env.length==ic)=false)
 (h1:∀w,Turn F w0 w->(∀e∈o.after,Region.binds .any e=true->∀ (x:Value) (W:VP),env[e.on]? =some (x,W)->W x w)->z03 P o a w (Is c))
 (h2:∀K:Act->Prop,(∀a',z1R P ops (coR F ic w0) Q rest Vs (env++ [(c,Is c)]) a'->K a')->K (a.put o.dst c)):z1R P ops (coR F ic w0) Q (o::rest) (Is c::Vs) env a:=
 z7k hw hn h1 fun x ⟨_,_,hx⟩=>by
  obtain rfl:x=c:=hx;exact h2
theorem zD6{V:VP}(hw:Region.wanted o (yielded ops a.tmps)=true)(hic:(env.length==ic)=true)
 (h1:∀w,Below w0.heap.size w0 w->(∀e∈o.after,Region.binds .any e=true->∀ (x:Value) (W:VP),env[e.on]? =some (x,W)->W x w)->steps P o a w (Turn F) V)
 (h2:∀x,(∃w,Turn F w0 w/\V x w)->∀K:Act->Prop,(∀a',z1R P ops (coR F ic w0) Q rest Vs (env++ [(x,V)]) a'->K a')->K (a.put o.dst x)):z1R P ops (coR F ic w0) Q (o::rest) (V::Vs) env a:=by
 obtain rfl:env.length=ic:=by simpa using hic
 refine⟨?_,fun x hx=>h2 x hx _ fun _ h=>h⟩;rw [yB hw];intro w hC hf;have hC:Below w0.heap.size w0 w:=by
  simp only [coR]at hC;rw [yB trivial]at hC;exact hC
 have eS:(coR F env.length w0).S env.length=Turn F:=zCI;rw [eS];exact h1 w hC hf
theorem zGr(h:∀w,Turn F w0 w->(∀ (j:Nat) (x:Value) (W:VP),env[j]? =some (x,W)->W x w)->Q a w):z1R P ops (coR F ic w0) Q [] [] env a:=h
end
end
end
section
open Go Tryz
def titleB:List UInt8:= [115,101,103,109,101,110,116]
abbrev Rcd:=Nat×List UInt8
def wBytes(f:SF)(p:Int):Nat->List UInt8
 |0=> []
 |n+1=>match f p with
  |none=> []
  |some b=>if b.length<512 then b else b++wBytes f (p+1) n
structure Fd where
 at':Nat
 base:Nat
 recs:List Rcd
deriving DecidableEq
structure Sg where
 at':Nat
 base:Nat
 count:Nat
deriving DecidableEq
def z2p(live:List Sg)(i:Nat):Bool:=live.any fun s=>s.at'==i
def z68(D:Dsk)(p:Int):Nat->Dsk
 |0=>D
 |n+1=>(z68 D p n).free (p+(n:Int))
structure Wl where
 D:Dsk
 a:Int
 n:Nat
 size:Nat
 live:List Sg
 stream:List UInt8
 last:Nat
 synced:Nat
def Wl.sync(l:Wl):Wl:={l with D:=l.D.sync,synced:=l.last}
def z37(live:List Sg)(n:Nat):Option Nat:=(List.range n).find? fun i=> !z2p live i
def z3t(D:Dsk)(p:Int)(b:List UInt8):Nat->Nat->Dsk×Nat
 |0,_=>(D,0)
 |m+1,k=>if 512*k<b.length then
   (if D.why (p+(k:Int)) ((b.drop (512*k)).take 512)=0 then z3t (D.write (p+(k:Int)) ((b.drop (512*k)).take 512)) p b m (k+1)
   else(D,D.why (p+(k:Int)) ((b.drop (512*k)).take 512)))else(D,0)
def z3q:List Sg->List Sg
 | []=> []
 | [s]=> [{s with count:=(s.count+1)%U64}]
 |s::t::r=>s::z3q (t::r)
def z0P(l:Wl)(t:List UInt8):Wl×Nat×Nat:=
 let q:=(l.last+1)%U64
 let b:=z7Q q t
 let head:=z7Q q titleB
 if 32768<t.length∨512*l.size<head.length+b.length then(l,0,81)
 else if l.stream= []∨512*l.size<l.stream.length+b.length then
  match z37 l.live l.n with
  |none=>(l,0,82)
  |some i=>
   let r:=z3t l.D (l.a+(i:Int)*l.size) (head++b) (head++b).length 0
   if r.2=0 then({l with D:=r.1,live:=z3q (l.live++ [⟨i,q,0⟩]),stream:=head++b,last:=q},q,0)
   else(({l with D:=z68 r.1 (l.a+(i:Int)*l.size) l.size,stream:= []}:Wl).sync,0,r.2)
 else
  let r:=z3t l.D (l.a+(((l.live.getLast?).map (·.at')).getD 0:Nat)*l.size) (l.stream++b) (l.stream++b).length (l.stream.length / 512)
  if r.2=0 then({l with D:=r.1,live:=z3q l.live,stream:=l.stream++b,last:=q},q,0)
  else({l with D:=r.1,stream:= []},0,r.2)
theorem z6U{D:Dsk}(h:D.Ok)(p:Int):∀n,(z68 D p n).Ok
 |0=>h
 |n+1=>(z6U h p n).free _
theorem zDP(D:Dsk)(x:Int):(D.free x).pend.length<=D.pend.length+1:=by
 unfold Dsk.free
 split
 .show(D.pend++ [_]).length<=_;simp
 .omega
theorem z8p(D:Dsk)(p:Int):∀n,(z68 D p n).pend.length<=D.pend.length+n
 |0=>y5 _
 |n+1=>by
  have:=zDP (z68 D p n) (p+(n:Int));have:=z8p D p n;rw [z68];omega
theorem z4q(D:Dsk)(x:Int)(b:List UInt8):(D.write x b).pend.length<=D.pend.length+1:=by
 unfold Dsk.write
 split
 .show(D.pend++ [_]).length<=_;simp
 .omega
theorem zBy(p:Int)(b:List UInt8):∀ (m k:Nat) {D:Dsk},D.Ok->(z3t D p b m k).1.Ok
 |0,_,_,h=>h
 |m+1,k,D,h=>by
  rw [z3t]
  split
  .split
   .exact zBy p b m (k+1) (h.write _ _)
   .exact h
  .exact h
theorem zED(live:List Sg)(s:Sg)(i:Nat):z2p (live++ [s]) i=(z2p live i||s.at'==i):=by simp [z2p]
theorem z4A{live:List Sg}{i:Nat}:z2p live i=true↔∃s∈live,s.at'=i:=by simp [z2p]
end
section
open Go Go.RowKit Tryz
def SameK(ks:List (Option TypeId))(w w':World):Prop:=∀b t,t∈ks->z0G w b=some t->w'.heap[b]? =w.heap[b]?
section
variable {ks:List (Option TypeId)} {w w1 w2:World}
theorem zFI{w w':World}{b:Nat}{t:Option TypeId}(h:w'.heap[b]? =w.heap[b]?)(hk:z0G w b=some t):z0G w' b=some t:=by unfold z0G at hk ⊢;rw [h];exact hk
theorem SameK.trans(h:SameK ks w w1)(k:SameK ks w1 w2):SameK ks w w2:=fun b t ht hk=>
 (k b t ht (zFI (h b t ht hk) hk)).trans (h b t ht hk)
theorem SameK.not{b:Nat}{t t':Option TypeId}(hk:z0G w b=some t)(ht:t∉ks)(hk':z0G w b=some t'):t'∉ks:=by
 rw [hk]at hk';injection hk' with hk'
 subst hk';exact ht
theorem SameK.setCell{p:Addr}{t:TypeId}{cs:Array Value}(hb:Blk w p.block t cs)(ht:some t∉ks)(u:Value):SameK ks w (w.setCell p u):=fun b t' ht' hk=>
 Yd w p u b fun e=>by
  subst e;exact SameK.not (z0I hb) ht hk ht'
theorem SameK.less{ks':List (Option TypeId)}(h:SameK ks w w1)(hs:∀t∈ks',t∈ks):SameK ks' w w1:=fun b t ht hk=>h b t (hs t ht) hk
theorem KSl.same{e:TypeId}{size n:Nat}{v:Value}{xs:List Value}(h:KSl e size w v n xs)(hs:SameK ks w w1)(he:some e∈ks):KSl e size w1 v n xs:=h.keep fun b hb=>hs b _ he hb
theorem Blk.sameK{g:Nat}{t:TypeId}{cs:Array Value}(h:Blk w g t cs)(hs:SameK ks w w1)(ht:some t∈ks):Blk w1 g t cs:=(hs g _ ht (z0I h)).trans h
theorem MpV.sameK{P:Program}{k:TypeId}{b n:Nat}{f:Int->Option Value}(h:MpV P k w b f n)(hk:z0G w b=some none)(hs:SameK ks w w1)(ht:none∈ks):MpV P k w1 b f n:=h.at (hs b _ ht hk)
theorem Ow.same{e:TypeId}{B:Nat}{v:Value}{xs:List Value}(h:Ow e w B v xs)(hs:SameK ks w w1)(ht:some e∈ks):Ow e w1 B v xs:=by
 obtain⟨h1,h2⟩:=h;refine⟨h1,?_⟩;have hk:=fun b=>z2T (b:=b) (show w.ownsRow B e 1 v xs.length xs from⟨h1,h2⟩)
 rcases h2 with h2|⟨g,cap,cur,hv,hg,hh,r⟩
 .exact .inl h2
 .exact .inr ⟨g,cap,cur,hv,hg,(hs g _ ht (hk g (by rw [hv];rfl))).trans hh,r⟩
end
theorem zGT(a b:Nat):IntKind.u64.wrap ((a:Int)+(b:Int))=(((a+b)%U64:Nat):Int):=by
 simp only [IntKind.wrap,IntKind.bits,IntKind.signed];rw [Int.natCast_emod];rfl
def lgC(hg:Nat)(a:Int)(n size:Nat)(lv sv:Value)(last synced:Nat):Array Value:=
 #[.pointer (some ⟨hg,0,none⟩),.int .i64 a,.int .i64 (n:Int),.int .i64 (size:Int),lv,sv,.int .u64 (last:Int),.int .u64 (synced:Int)]
abbrev Lb(w:World)(gl:Nat)(hg:Nat)(a:Int)(n size:Nat)(lv sv:Value)(last synced:Nat):Prop:=Blk w gl 208 (lgC hg a n size lv sv last synced)
theorem i64_in{x:Int}(h0: -9223372036854775808<=x)(h1:x<=9223372036854775807):IntKind.i64.wrap x=x:=by
 simp [IntKind.wrap,IntKind.bits,IntKind.signed];omega
theorem zFa{e:TypeId}{size n B:Nat}{w w':World}{v:Value}{xs:List Value}(h:w.ownsRow B e size v n xs)(hb:Below w.heap.size w w'):w'.ownsRow B e size v n xs:=by
 obtain⟨h1,h2⟩:=h;refine⟨h1,?_⟩;rcases h2 with h2|⟨g,cap,cur,hv,hg,hh,r⟩
 .exact .inl h2
 .exact .inr ⟨g,cap,cur,hv,hg,(hb.block g (lt_of_block hh)).trans hh,r⟩
theorem SameK.grown{ks:List (Option TypeId)}{w w':World}{row:Option Nat}(hg:w.grownBy w' row)(hr:∀z t,row=some z->z0G w z=some t->t∉ks):SameK ks w w':=fun b t ht hk=>
 hg.block b (z5a hk) fun e=>hr b t e.symm hk ht
def sgC(s:Sg):List Value:= [.int .i64 (s.at':Int),.int .u64 (s.base:Int),.int .u64 (s.count:Int)]
def z4y(l:List Sg):List Value:=l.flatMap sgC
abbrev Rg3(w:World)(v:Value)(l:List Sg):Prop:=KSl 212 3 w v l.length (z4y l)
theorem zCq:∀ (l:List Sg) (j:Nat) (hj:j<l.length),(z4y l)[j*3]? =some (.int .i64 (l[j].at':Int))/\(z4y l)[j*3+1]? =some (.int .u64 (l[j].base:Int))/\(z4y l)[j*3+2]? =some (.int .u64 (l[j].count:Int))
 |x::xs,0,_=>⟨rfl,rfl,rfl⟩
 |x::xs,j+1,hj=>by
  have h:=zCq xs j (by simpa using hj);have e:z4y (x::xs)=sgC x++z4y xs:=rfl;have g:∀k,(z4y (x::xs))[(j+1)*3+k]? =(z4y xs)[j*3+k]? :=fun k=>by
   rw [e,yx (by simp [sgC];omega)]
   congr 1
   simp [sgC];omega
  refine⟨?_,?_,?_⟩
  .rw [show(j+1)*3=(j+1)*3+0 by omega,g];exact h.1
  .rw [g];exact h.2.1
  .rw [g];exact h.2.2
theorem Rg3.at{w:World}{v:Value}{l:List Sg}(h:Rg3 w v l):∃A c,v= .slice A l.length c/\l.length<=c/\c<=maxLen/\
 (0<l.length->∃b o,A=some ⟨b,o,none⟩/\b<w.heap.size/\∀j (hj:j<l.length),w.cell? ⟨b,o+j*3,none⟩=some (.int .i64 (l[j].at':Int))/\w.cell? ⟨b,o+j*3+1,none⟩=some (.int .u64 (l[j].base:Int))/\w.cell? ⟨b,o+j*3+2,none⟩=some (.int .u64 (l[j].count:Int))):=by
 obtain⟨_,A,c,h2,h3,h4,h5,h6⟩:=KSl.lt h;refine⟨A,c,h2,h3,h4,fun hn=> ?_⟩;obtain⟨b,o,ha,hs,hc⟩:=h6 hn;refine⟨b,o,ha,hs,fun j hj=> ?_⟩;have hg:=zCq l j hj;refine⟨hc _ _ hg.1,?_,?_⟩
 .rw [Z4];exact hc _ _ hg.2.1
 .rw [Z4];exact hc _ _ hg.2.2
theorem zGY(x:Sg)(i gb:Nat)(w:World)(hb:Blk w gb 3 #[.int .i64 (i:Int)]):
 Calls prog 148 #[.agg #[.int .i64 (x.at':Int),.int .u64 (x.base:Int),.int .u64 (x.count:Int)],.pointer (some ⟨gb,0,none⟩)] w fun e w'=>e= .returned (.bool (x.at'==i))/\Below w.heap.size w w':=by
 have q:=(y7 w.heap.size w).alloc (y5 _) (.cells #[.int .i64 (x.at':Int),.int .u64 (x.base:Int),.int .u64 (x.count:Int)] 212);have c0:(w.alloc (.cells #[.int .i64 (x.at':Int),.int .u64 (x.base:Int),.int .u64 (x.count:Int)] 212)).cell? ⟨gb,0,none⟩=some (.int .i64 (i:Int)):=(hb.later q).cell 0;have hlt:=hb.lt;clear hb;by_cases hx:x.at'=i
 .subst hx;have hx2:(x.at'==x.at')=true:=by simp
  rw [hx2];clear hx2;go_enter func148,ntmps148
  go_wp2_with fail
  go_ret
  exact⟨by simp,q⟩
 .have hx2:(x.at'==i)=false:=by simpa using hx
  have hx4:=zz hx;clear hx;have hx3:¬ ((x.at':Int)=(i:Int)):=by have:=hx4.out;omega
  rw [hx2];clear hx2;go_enter func148,ntmps148
  go_wp2_with fail
  go_ret
  exact⟨by simp [hx3],q⟩
theorem zBj(lv:Value)(live:List Sg)(i gb:Nat)(w:World)(hb:Blk w gb 3 #[.int .i64 (i:Int)])(hl:Rg3 w lv live):
 Calls prog 168 #[lv,.func (Fn.func 148) #[] #[.pointer (some ⟨gb,0,none⟩)]] w fun e w'=>∃r:Int,e= .returned (.int .i64 r)/\(0<=r↔z2p live i=true)/\Below w.heap.size w w':=by
 obtain⟨A,c,rfl,hlc,hcm,hA⟩:=hl.at;have HA:=zz hA;have HB:=zz hb;have hm:live.length<=9223372036854775807:=by unfold maxLen at hcm;omega
 clear hl hb hA;go_enter func168,ntmps168
 go_wp2_with fail
 go_loopw [8] (fun kv wr=>∃k:Nat,kv= .int .i64 (k:Int)/\k<=live.length/\Hid (z2p (live.take k) i=false)/\Hid (Below w.heap.size w wr)) (fun kv _=>live.length-(intOf kv).toNat)
 case atStart=>exact⟨0,rfl,yU _,rfl,y7 _ _⟩
 case round=>
  obtain⟨k,rfl,hk,HU,B⟩:=hrel;by_cases hlt:k<live.length
  .obtain⟨b,o,rfl,hbl,hcell⟩:=HA.out (by omega);obtain⟨k0,k1,k2⟩:=hcell k hlt;have x0:=(B.out.cell (p:=⟨b,o+k*3,none⟩) hbl).trans k0;have x1:=(B.out.cell (p:=⟨b,o+k*3+1,none⟩) hbl).trans k1;have x2:=(B.out.cell (p:=⟨b,o+k*3+2,none⟩) hbl).trans k2;have HBR:=zz (HB.out.later B.out);have HT:Hid (live.take (k+1)=live.take k++ [live[k]]):=by rw [Hid,List.take_add_one,yK hlt];rfl
   have HM:=zz (yQ hlt);clear hcell k0 k1 k2;generalize live[k]=x at*;go_wp2_with fail
   refine(zGY x i gb wr HBR.out).mono ?_;rintro e w4 ⟨rfl,hb4⟩;have B4:=zz (B.out.trans (hb4.mono B.out.size));by_cases hx:x.at'=i
   .have hx2:(x.at'==i)=true:=by simpa using hx
    rw [hx2];go_wp2_with fail
    go_ret
    exact⟨_,rfl,⟨fun _=>z4A.2 ⟨x,HM.out,hx⟩,fun _=>by omega⟩,B4.out⟩
   .have hx2:(x.at'==i)=false:=by simpa using hx
    have HU2:Hid (z2p (live.take (k+1)) i=false):=by rw [Hid,HT.out,zED,HU.out,hx2];rfl
    rw [hx2];go_wp2_with fail
    go_roundw
    case rel=>exact⟨k+1,by go_num,by omega,HU2,B4⟩
    case measure=>simp [intOf];omega
  .obtain rfl:k=live.length:=by omega
   have hu:=HU.out;rw [YG]at hu;go_wp2_with fail
   go_ret
   exact⟨_,rfl,⟨fun h=>by simp at h,fun h=>by rw [hu]at h;cases h⟩,B.out⟩
theorem z80(lv:Value)(live:List Sg)(i gb:Nat)(w:World)(hb:Blk w gb 3 #[.int .i64 (i:Int)])(hl:Rg3 w lv live):
 Calls prog 147 #[lv,.func (Fn.func 148) #[] #[.pointer (some ⟨gb,0,none⟩)]] w fun e w'=>e= .returned (.bool (z2p live i))/\Below w.heap.size w w':=by
 go_enter func147,ntmps147
 go_wp2_with fail
 refine(zBj lv live i gb w hb hl).mono ?_;rintro e w4 ⟨r,rfl,hr,hb4⟩;have HR:=zz hr;clear hr;go_wp2_with fail
 go_ret
 refine⟨?_,hb4⟩;have:=HR.out;cases hu:z2p live i
 .rw [hu]at this;simp at this;simp;omega
 .rw [hu]at this;simp at this;simp [this]
theorem z3M(gl hg:Nat)(a:Int)(n size i:Nat)(lv sv:Value)(last synced:Nat)(live:List Sg)(w:World)(hl:Lb w gl hg a n size lv sv last synced)(hs:Rg3 w lv live):
 Calls prog 111 #[.pointer (some ⟨gl,0,none⟩),.int .i64 (i:Int)] w fun e w'=>e= .returned (.bool (z2p live i))/\Below w.heap.size w w':=by
 have qa:=(y7 w.heap.size w).alloc (y5 _) (.cells #[.int .i64 (i:Int)] 3);have l4:(w.alloc (.cells #[.int .i64 (i:Int)] 3)).cell? ⟨gl,4,none⟩=some lv:=(hl.later qa).cell 4;have HS:=zz (KSl.later hs qa);have HB:=zz (Blk.new w 3 #[.int .i64 (i:Int)]);have HQ:=zz qa;have hmf:=z0N prog;obtain⟨A,c,rfl,-⟩:=hs.at;clear hl hs qa;go_enter func111,ntmps111
 go_wp2_with fail
 refine(z80 _ live i _ _ HB.out HS.out).mono ?_;rintro e w4 ⟨rfl,hb4⟩;have q:=HQ.out.trans (hb4.mono HQ.out.size);go_wp2_with fail
 go_ret
 exact⟨rfl,q⟩
abbrev Sec:=Int×List UInt8
def scs(l:List Sec):List Value:=l.flatMap fun x=> [.int .i64 x.1,.string (st x.2)]
section
variable {w wr w':World} {D pc Z:Array Value}
end
def dkKs:List (Option TypeId):= [some 145,none,some 288,some 3,some 78,some 5]
theorem Ub.same{ks:List (Option TypeId)}{w w':World}{B:Nat}{v:Value}{l:List UInt8}(h:Ub w B v l)(hs:SameK ks w w')(hk:some 5∈ks):Ub w' B v l:=h.keep fun b hb=>hs b _ hk (zBL hb)
theorem Secs.same{ks:List (Option TypeId)}{w w':World}{b n:Nat}{f:SF}(h:Secs w b f n)(hs:SameK ks w w')(h1:none∈ks)(h2:some 5∈ks):Secs w' b f n:=by
 have hk:=h.kind;obtain⟨m,hm,hr⟩:=h;exact⟨m,hm.sameK hk hs h1,fun a ha=>(hr a ha).keep fun _ _ h=>h.same hs h2⟩
theorem PnIs.same{w w':World}{v:Value}{p:Pnd}(h:PnIs w v p)(hs:SameK dkKs w w'):PnIs w' v p:=by
 cases p with
 |wr a b=>
  obtain⟨ga,A,c,h1,h2,h3,h4⟩:=h;exact⟨ga,A,c,h1,h2.sameK hs (by decide),h3.sameK hs (by decide),h4.same hs (by decide)⟩
 |fr a=>
  obtain⟨ga,h1,h2⟩:=h;exact⟨ga,h1,h2.sameK hs (by decide)⟩
theorem Dk.same{w w':World}{h:Zn}{D:Dsk}(d:Dk w h D)(hs:SameK dkKs w w'):Dk w' h D:=by
 obtain⟨vs,h1,h2⟩:=d.pend;exact⟨d.blk.sameK hs (by decide),d.view.same hs (by decide) (by decide),d.ground.same hs (by decide) (by decide),d.ne,vs,h1.same hs (by decide),h2.keep fun _ _ h=>h.same hs⟩
theorem Stp.same{ks:List (Option TypeId)}{h h':Zn}{w w':World}{D:Dsk}(s:Stp h w h' w')(d:Dk w h D)(hk:some 145∉ks)(h0:none∉ks)(hp:some 288∉ks):SameK ks w w':=fun b t ht hb=>
 s.turn.block b (z5a hb) fun e=>by
  rcases d.kinds e with h3|h3|h3
  .exact SameK.not h3 hk hb ht
  .exact SameK.not h3 h0 hb ht
  .exact SameK.not h3 hp hb ht
theorem Stp.lb{h h':Zn}{w w':World}{D:Dsk}(s:Stp h w h' w')(d:Dk w h D){gl hg:Nat}{a:Int}{n size:Nat}{lv sv:Value}{last synced:Nat}(hl:Lb w gl hg a n size lv sv last synced):Lb w' gl hg a n size lv sv last synced:=s.blk d hl (by decide) (by decide)
theorem Mtp.sameL{ks:List (Option TypeId)}{h h':Zn}{w w':World}{D:Dsk}{g:Nat}{t:TypeId}{cs:Array Value}(s:Mtp h g w h' w')(d:Dk w h D)(m:Blk w g t cs)(hk:some 145∉ks)(h0:none∉ks)(hp:some 288∉ks)(hm:some t∉ks):SameK ks w w':=fun b t' ht hb=>
 s.turn.block b (z5a hb) fun e=>by
  rcases e with e|rfl
  .rcases d.kinds e with h3|h3|h3
   .exact SameK.not h3 hk hb ht
   .exact SameK.not h3 h0 hb ht
   .exact SameK.not h3 hp hb ht
  .exact SameK.not (z0I m) hm hb ht
theorem z9a{i size:Nat}(hi:i<=64)(hs:size<=64):(0:Int)<=(i:Int)*size/\(i:Int)*size<=4096:=by
 constructor
 .exact Int.mul_nonneg (by omega) (by omega)
 .have:i*size<=64*64:=Nat.mul_le_mul hi hs;have e:((i*size:Nat):Int)=(i:Int)*size:=by push_cast;rfl
  omega
theorem z8P(h:Zn)(D:Dsk)(gl:Nat)(a:Int)(n size i:Nat)(lv sv:Value)(last synced:Nat)(w:World)(hd:Dk w h D)(hok:D.Ok)(hl:Lb w gl h.g a n size lv sv last synced)(hs:size<=64)(hi:i<=64)(h0:0<=a)(h1:a<=65536)(hp:D.pend.length<=900000):
 Calls prog 112 #[.pointer (some ⟨gl,0,none⟩),.int .i64 (i:Int)] w fun e w'=>e= .returned (.tuple #[])/\∃h',Dk w' h' (z68 D (a+(i:Int)*size) size)/\Stp h w h' w':=by
 have HD:=zz hd;have HOK:=zz hok;have HL:=zz hl;have l3:w.cell? ⟨gl,3,none⟩=some (.int .i64 (size:Int)):=hl.cell 3;have hmul:=z9a hi hs;clear hd hok hl;go_enter func112,ntmps112
 go_wp2_with fail
 clear l3;go_loopw [9] (fun kv wr=>∃ (k:Nat) (h':Zn),kv= .int .i64 (k:Int)/\k<=size/\Hid (Dk wr h' (z68 D (a+(i:Int)*size) k))/\Hid (Stp h w h' wr)) (fun kv _=>size-(intOf kv).toNat)
 case atStart=>exact⟨0,h,rfl,yU _,HD,Stp.refl _ _⟩
 case round=>
  obtain⟨k,h',rfl,hk,DK,ST⟩:=hrel;by_cases hlt:k<size
  .have LR:=zz (ST.out.lb HD.out HL.out);have l0:wr.cell? ⟨gl,0,none⟩=some (.pointer (some ⟨h.g,0,none⟩)):=LR.out.cell 0;have l1:wr.cell? ⟨gl,1,none⟩=some (.int .i64 a):=LR.out.cell 1;have l3:wr.cell? ⟨gl,3,none⟩=some (.int .i64 (size:Int)):=LR.out.cell 3;have hw1:IntKind.i64.wrap ((i:Int)*size)=(i:Int)*size:=i64_in (by omega) (by omega);have hw2:IntKind.i64.wrap (a+(i:Int)*size)=a+(i:Int)*size:=i64_in (by omega) (by omega);have hw3:IntKind.i64.wrap (a+(i:Int)*size+k)=a+(i:Int)*size+k:=i64_in (by omega) (by omega);have hin:Hid (InI (a+(i:Int)*size+k)):=by rw [Hid];unfold InI;omega
   have hpe:=z8p D (a+(i:Int)*size) k;have HPE:Hid ((z68 D (a+(i:Int)*size) k).pend.length<=1000000000):=by rw [Hid];omega
   have HOKR:=zz (z6U HOK.out (a+(i:Int)*size) k);have HG:=zz ST.out.g;clear hpe;go_wp2_with fail
   go_region_held3 (fun w'=>w'.cell? ⟨gl,0,none⟩=some (.pointer (some ⟨h.g,0,none⟩))/\w'.cell? ⟨gl,1,none⟩=some (.int .i64 a)/\w'.cell? ⟨gl,3,none⟩=some (.int .i64 (size:Int)))
    (first
      |go_keep
      |exact⟨LX.cell 0,LX.cell 1,LX.cell 3⟩
      |fail)
    ((first
      |(go_at_call 149;rw [<-HG.out];refine(zEv h' _ (a+(i:Int)*size+k) _ (DK.out.later (below_drewN (y7 _ _) 1)) HOKR.out hin.out HPE.out).mono ?_;rintro e w4 ⟨rfl,h4,hd4,hs4⟩;rw [HG.out];have LX:=hs4.blk (DK.out.later (below_drewN (y7 _ _) 1)) (LR.out.later (below_drewN (y7 _ _) 1)) (by decide) (by decide))))
   have D4:=zz hd4;have S4:=zz (ST.out.trans ((Stp.below (below_drewN (y7 _ _) 1)).trans hs4));clear hd4 hs4 LX l0 l1 l3;go_wp2_with fail
   go_roundw
   case rel=>exact⟨k+1,h4,by go_num,by omega,D4,S4⟩
   case measure=>simp [intOf];omega
  .obtain rfl:k=size:=by omega
   go_wp2_with fail
   go_end0
   exact⟨rfl,h',DK.out,ST.out⟩
theorem lg_put{w W:World}{h h':Zn}{D D':Dsk}{gl:Nat}{cs:Array Value}(hd:Dk W h' D')(hl:Blk W gl 208 cs)(m:Mtp h gl w h' W)(k:Nat)(u:Value):
 Dk (W.setCell ⟨gl,k,none⟩ u) h' D'/\Blk (W.setCell ⟨gl,k,none⟩ u) gl 208 (cs.setIfInBounds k u)/\Mtp h gl w h' (W.setCell ⟨gl,k,none⟩ u):=
 ⟨hd.same (SameK.setCell (p:=⟨gl,k,none⟩) hl (by decide) u),hl.put k u,m.g,m.turn.setCell (p:=⟨gl,k,none⟩) (.inl (.inr rfl)) u,m.has⟩
theorem z8Q(h:Zn)(D:Dsk)(gl:Nat)(a:Int)(n size:Nat)(lv sv:Value)(last synced:Nat)(w:World)(hd:Dk w h D)(hok:D.Ok)(hl:Lb w gl h.g a n size lv sv last synced):
 Calls prog 113 #[.pointer (some ⟨gl,0,none⟩)] w fun e w'=>e= .returned (.tuple #[])/\∃h',Dk w' h' D.sync/\Lb w' gl h.g a n size lv sv last last/\Mtp h gl w h' w':=by
 have HD:=zz hd;have HL:=zz hl;have l0:w.cell? ⟨gl,0,none⟩=some (.pointer (some ⟨h.g,0,none⟩)):=hl.cell 0;clear hd hl;go_enter func113,ntmps113
 go_wp2_with fail
 refine(zEx h D w HD.out hok).mono ?_;rintro e w4 ⟨rfl,h4,hd4,hs4⟩;have D4:=zz hd4;have S4:=zz hs4;have L4:=zz (hs4.lb HD.out HL.out);have l6:w4.cell? ⟨gl,6,none⟩=some (.int .u64 (last:Int)):=L4.out.cell 6;have l7:w4.cell? ⟨gl,7,none⟩=some (.int .u64 (synced:Int)):=L4.out.cell 7;have f7:=L4.out.free 7;clear hd4 hs4 l0;go_wp2_with fail
 go_end0
 have:=lg_put (D:=D) D4.out L4.out (Mtp.of_stp S4.out) 7 (.int .u64 (last:Int));exact⟨rfl,h4,this.1,this.2.1,this.2.2⟩
theorem z4N(gl hg:Nat)(a:Int)(n size:Nat)(lv sv:Value)(last synced:Nat)(w:World)(hl:Lb w gl hg a n size lv sv last synced)(hs:size<=64):
 Calls prog 121 #[.pointer (some ⟨gl,0,none⟩)] w fun e w'=>e= .returned (.int .i64 ((512*size:Nat):Int))/\w=w':=by
 have l3:w.cell? ⟨gl,3,none⟩=some (.int .i64 (size:Int)):=hl.cell 3;have hw:IntKind.i64.wrap ((size:Int)*512)=((512*size:Nat):Int):=by rw [i64_in (by omega) (by omega)];omega
 clear hl;go_enter func121,ntmps121
 go_wp2_with fail
 go_ret
 exact⟨rfl,rfl⟩
theorem zIk:Elem prog 206 212 (.agg #[.int .i64 0,.int .u64 0,.int .u64 0]) 3 24:=Elem.mk' underlying206 (by kernel_rfl) rfl (by omega)
theorem zG3(s:Sg):∀y∈sgC s,y.oneCell'=true:=by
 intro y hy;simp only [sgC,y9,yH,yp]at hy;rcases hy with rfl|rfl|rfl<;>rfl
theorem zG4(l:List Sg)(x:Sg):z4y (l++ [x])=z4y l++sgC x:=by simp [z4y]
theorem Sl.newsg(w:World)(x:Sg){g:Nat}(hg:g=w.heap.size):Sl (fun _=>True) (w.alloc (.cells (sgC x).toArray 212)) 3 (.slice (some ⟨g,0,none⟩) 1 1) 1 (sgC x):=by
 have:=KSl.new w 212 3 (by omega) (sgC x).toArray 1 (by omega) (by simp [maxLen]) (by simp [sgC]) hg;rw [List.toList_toArray]at this;exact Sl.more this fun _ _=>trivial
theorem z7D{e:TypeId}{size n B B':Nat}{w:World}{v:Value}{xs:List Value}(h:w.ownsRow B e size v n xs)(hB:B'<=B):w.ownsRow B' e size v n xs:=by
 obtain⟨h1,h2⟩:=h;refine⟨h1,?_⟩;rcases h2 with h2|⟨g,cap,cur,hv,hg,r⟩
 .exact .inl h2
 .exact .inr ⟨g,cap,cur,hv,yD hB hg,r⟩
end
section
open Go Tryz
theorem z3N:∀ (n:Nat) (l:List Nat),l.Nodup->(∀x∈l,x<n)->l.length<=n
 |0,l,_,h=>by
  cases l with
  |nil=>simp
  |cons a l=>have:=h a (by simp);omega
 |n+1,l,hd,h=>by
  by_cases hm:n∈l
  .have h1:=z3N n (l.erase n) (hd.erase n) (fun x hx=>by
    have h2:=(hd.mem_erase_iff).1 hx;have:=h x h2.2;have:=h2.1;omega)
   rw [List.length_erase_of_mem hm]at h1;omega
  .have:=z3N n l hd (fun x hx=>by
    have h2:=h x hx;have:x≠n:=fun e=>hm (e▸hx)
    omega)
   omega
end
section
open Go Go.RowKit Tryz
theorem z5J{ks:List (Option TypeId)}{e:TypeId}{size n B:Nat}{w w':World}{v:Value}{xs:List Value}(h:w.ownsRow B e size v n xs)(hs:SameK ks w w')(ht:some e∈ks):w'.ownsRow B e size v n xs:=by
 have hk:=fun b=>z2T (b:=b) h
 obtain⟨h1,h2⟩:=h;refine⟨h1,?_⟩;rcases h2 with h2|⟨g,cap,cur,hv,hg,hh,r⟩
 .exact .inl h2
 .exact .inr ⟨g,cap,cur,hv,hg,(hs g _ ht (hk g (by rw [hv];rfl))).trans hh,r⟩
theorem zI4(l:List Sg):∀y∈z4y l,y.oneCell'=true:=by
 intro y hy;obtain⟨s,_,hs⟩:=YE.1 hy;exact zG3 s y hs
theorem z7a(v0:Value)(l:List Sg)(w:World)(hl:l.length<=1000000)(hr:Rg3 w v0 l):
 Calls prog 122 #[v0] w fun e w'=>∃A c,e= .returned (.slice A l.length c)/\w'.ownsRow w.heap.size 212 3 (.slice A l.length c) l.length (z4y l)/\Below w.heap.size w w':=by
 have HR:=zz hr;obtain⟨_,A,c,rfl,hlc,hcm,hA0,_⟩:=hr;rcases A with _|ad
 .obtain rfl:c=0:=hA0 rfl;have hl0:l.length=0:=by omega
  obtain rfl:l= []:=yX hl0;have hnil:=Yv (P:=prog);go_enter func122,ntmps122
  go_wp2_with fail
  go_ret
  exact⟨none,0,rfl,Ya _ _ _ _,y7 _ _⟩
 .have hma:(w.alloc (.cells #[] 212)).ownsRow w.heap.size 212 3 (.slice (some ⟨w.heap.size,0,none⟩) 0 0) 0 []:=ZX w #[] 0 (y5 _) (by simp [maxLen]) (by simp);have HA:=zz (KSl.later HR.out ((y7 _ _).alloc (y5 _) (.cells #[] 212)));have hnil:=Yv (P:=prog);go_enter func122,ntmps122
  go_wp2_with (at_builtin;refine z0A _ rfl (.tmp 5) (.tmp 6) zIk rfl hma HA.out rfl rfl (zI4 _) (by simp only [maxLen];omega) (by omega) (by simp) ?_;intro A1 k1 c1 w1 hown1 hg1 hat1)
  go_ret
  rw [Y4,yz]at hown1;obtain rfl:=z0h hown1;exact⟨A1,c1,rfl,hown1,z01 ((y7 _ _).alloc (y5 _) _) hma hg1 (by simp)⟩
theorem zB7(S:Nat->Prop)(v0:Value)(l:List UInt8)(w:World)(hl:l.length<=1099511627776)(hr:Bs S w v0 l):
 Calls prog 123 #[v0] w fun e w'=>∃A c,e= .returned (.slice A l.length c)/\Ob 5 w' w.heap.size (.slice A l.length c) l/\Below w.heap.size w w':=by
 have HR:=zz hr;obtain⟨A,c,rfl,hlc,hcm,hA0,_⟩:=hr.at;rcases A with _|ad
 .obtain rfl:c=0:=hA0 rfl;have hl0:l.length=0:=by omega
  obtain rfl:l= []:=yX hl0;have hnil:=Yv (P:=prog);go_enter func123,ntmps123
  go_wp2_with fail
  go_ret
  exact⟨none,0,rfl,Ob.nil _ _ _,y7 _ _⟩
 .have hma:Ob 5 (w.alloc (.cells #[] 5)) w.heap.size (.slice (some ⟨w.heap.size,0,none⟩) 0 0) []:=Ob.made _ _ _ (y5 _) rfl;have HA:=zz (Sl.alloc1 HR.out (.cells #[] 5));have hnil:=Yv (P:=prog);go_enter func123,ntmps123
  go_wp2_with (at_builtin;refine z02 _ rfl (.tmp 5) (.tmp 6) z0p rfl hma HA.out rfl rfl (by simp;omega) (by simp) ?_;intro A1 k1 c1 w1 hown1 hg1 hat1)
  go_ret
  rw [yz]at hown1;obtain rfl:=hown1.len;exact⟨A1,c1,rfl,hown1,z01 ((y7 _ _).alloc (y5 _) _) hma hg1 (by simp)⟩
theorem zIT{D:Dsk}{p:Int}{b:List UInt8}{m k:Nat}(h:¬512*k<b.length):z3t D p b m k=(D,0):=by
 cases m with
 |zero=>rfl
 |succ m=>rw [z3t,yA h]
theorem zGl{D:Dsk}{p:Int}{b:List UInt8}{m k:Nat}(h:512*k<b.length)(hw:D.why (p+(k:Int)) ((b.drop (512*k)).take 512)=0):z3t D p b (m+1) k=z3t (D.write (p+(k:Int)) ((b.drop (512*k)).take 512)) p b m (k+1):=by
 rw [z3t,yB h,yB hw]
theorem zAv{D:Dsk}{p:Int}{b:List UInt8}{m k:Nat}(h:512*k<b.length)(hw:D.why (p+(k:Int)) ((b.drop (512*k)).take 512)≠0):z3t D p b (m+1) k=(D,D.why (p+(k:Int)) ((b.drop (512*k)).take 512)):=by
 rw [z3t,yB h,yA hw]
theorem zA8{D:Dsk}{x:Int}{b:List UInt8}(h:D.why x b≠0):D.write x b=D:=by
 unfold Dsk.write;rw [yA h]
theorem zAu(p:Int)(b:List UInt8):∀ (m k:Nat) (D:Dsk),(z3t D p b m k).1.pend.length<=D.pend.length+m
 |0,k,D=>by rw [z3t];simp
 |m+1,k,D=>by
  rw [z3t]
  split
  .split
   .have h1:=zAu p b m (k+1) (D.write (p+(k:Int)) ((b.drop (512*k)).take 512));have h2:=z4q D (p+(k:Int)) ((b.drop (512*k)).take 512);omega
   .simp
  .simp
structure PtSt(h h':Zn)(w wr:World)(D D':Dsk)(p:Int)(b:List UInt8)(k0 k m:Nat):Prop where
 dk:Dk wr h' D'
 ok:D'.Ok
 st:Stp h w h' wr
 eq:z3t D p b b.length k0=z3t D' p b m k
 fuel:b.length<=512*(k+m)
 pend:D'.pend.length+k0<=D.pend.length+k
theorem zFP(h:Zn)(D:Dsk)(gl:Nat)(a:Int)(n size i frm:Nat)(lv sv:Value)(last synced:Nat)(v0:Value)(b:List UInt8)(w:World)(hd:Dk w h D)(hok:D.Ok)(hl:Lb w gl h.g a n size lv sv last synced)(hs:size<=64)(hi:i<=64)(h0:0<=a)(h1:a<=65536)(hp:D.pend.length<=900000)
 (hb:Ub w 0 v0 b) (hbl:b.length<=40000) (hf:frm<=b.length):
 Calls prog 124 #[.pointer (some ⟨gl,0,none⟩),.int .i64 (i:Int),.int .i64 (frm:Int),v0] w fun e w'=>e= .returned (.int .i64 ((z3t D (a+(i:Int)*size) b b.length (frm / 512)).2:Int))/\∃h',Dk w' h' (z3t D (a+(i:Int)*size) b b.length (frm / 512)).1/\Stp h w h' w':=by
 have HD:=zz hd;have HOK:=zz hok;have HL:=zz hl;have HB:=zz hb;have hmul:=z9a hi hs;have hpp:Hid (D.pend.length<=900000):=hp;obtain⟨A0,c0,rfl,hlc,hcm,-,-⟩:=hb.bs.at;have hq:(frm:Int).tdiv 512=((frm / 512:Nat):Int):=(Int.ofNat_tdiv frm 512).symm;have hk0:frm / 512<=100:=by omega
 obtain⟨k0,hk9⟩:∃k0,frm / 512=k0:=⟨_,rfl⟩;rw [hk9]at hq hk0 ⊢;clear hd hok hl hb hp hk9;go_enter func124,ntmps124
 go_wp2_with fail
 go_loopw [9] (fun kv wr=>∃ (k m:Nat) (D':Dsk) (h':Zn),kv= .int .i64 (k:Int)/\k<=100/\Hid (PtSt h h' w wr D D' (a+(i:Int)*size) b k0 k m)) (fun kv _=>200-(intOf kv).toNat)
 case atStart=>exact⟨k0,b.length,D,h,by first|rfl|(rw [hq]),hk0,HD.out,HOK.out,Stp.refl _ _,rfl,by omega,by omega⟩
 case round=>
  obtain⟨k,m,D',h',rfl,hk,PT⟩:=hrel;obtain⟨lo,hlo⟩:∃lo,512*k=lo:=⟨_,rfl⟩;have hw1:IntKind.i64.wrap ((k:Int)*512)=(lo:Int):=by rw [i64_in (by omega) (by omega)];omega
  have hw2:(k:Int)*512=(lo:Int):=by omega
  have hw8:IntKind.i64.wrap (lo:Int)=(lo:Int):=i64_in (by omega) (by omega);by_cases hlt:lo<b.length
  .have LR:=zz (PT.out.st.lb HD.out HL.out);have BR:=zz (PT.out.st.ub HD.out HB.out);obtain⟨_,A',c',he,_,_,_,hA⟩:=HB.out;cases he
   obtain⟨bb,ob,rfl,-,-⟩:=hA (by omega);clear hA;have HLO:=zz hlo;have hi1:(lo:Int)<(b.length:Int):=by omega
   have hi2:¬c0=lo:=by omega
   obtain⟨hj,hhj⟩:∃hj,lo+512=hj:=⟨_,rfl⟩;have hw3:((k:Int)+1)*512=(hj:Int):=by omega
   have hw4:IntKind.i64.wrap (((k:Int)+1)*512)=(hj:Int):=by rw [i64_in (by omega) (by omega)];omega
   have hw5:IntKind.i64.wrap ((i:Int)*size)=(i:Int)*size:=i64_in (by omega) (by omega);have hw6:IntKind.i64.wrap (a+(i:Int)*size)=a+(i:Int)*size:=i64_in (by omega) (by omega);have hw7:IntKind.i64.wrap (a+(i:Int)*size+k)=a+(i:Int)*size+k:=i64_in (by omega) (by omega);have l0:wr.drew.cell? ⟨gl,0,none⟩=some (.pointer (some ⟨h.g,0,none⟩)):=LR.out.cell 0;have l1:wr.drew.cell? ⟨gl,1,none⟩=some (.int .i64 a):=LR.out.cell 1;have l3:wr.drew.cell? ⟨gl,3,none⟩=some (.int .i64 (size:Int)):=LR.out.cell 3;have HJ:=zz hhj;clear hlo;by_cases hbe:b.length<hj
   .have i4:(b.length:Int)<(hj:Int):=by omega
    have i7:min (hj:Int) (b.length:Int)=(b.length:Int):=by omega
    have hch:Hid ((b.drop lo).take (b.length-lo)=(b.drop (512*k)).take 512):=by
     rw [Hid,HLO.out];have:=HJ.out;by_cases h9:b.length-lo=512
     .rw [h9]
     .rw [ya (by rw [yI];omega),ya (by rw [yI];omega)]
    have i5:(lo:Int)<=(b.length:Int):=by omega
    have i6:(b.length:Int)<=(c0:Int):=by omega
    go_wp2_with fail
    go_still_tail 22,(by kernel_rfl)
    change wpList _ _ _ _ _ wr.drew;have D2:=zz (PT.out.dk.later (below_drewN (y7 wr.heap.size wr) 1));have B2:=zz (BR.out.later (below_drewN (y7 wr.heap.size wr) 1));have S2:=zz (PT.out.st.trans (Stp.below (below_drewN (y7 wr.heap.size wr) 1)));have hg':h.g=h'.g:=S2.out.g.symm;have hbs:Bs (UbS wr.drew 0) wr.drew (.slice (some ⟨bb,ob+lo,none⟩) (b.length-lo) (c0-lo)) ((b.drop lo).take (b.length-lo)):=by
     have h9:=Bs.cut (k:=lo) B2.out (by omega);rw [yA hi2,<-yI]at h9;exact Bs.pre h9 (by rw [yI];omega)
    rw [hch.out]at hbs;have HBS:=zz hbs;have hck:((b.drop (512*k)).take 512).length<=512:=by rw [yC];omega
    have hwo:=z4q D' (a+(i:Int)*size+k) ((b.drop (512*k)).take 512);obtain⟨m,rfl⟩:∃j,m=j+1:=⟨m-1,by have:=PT.out.fuel;have:=HLO.out;omega⟩;have hgo:=zz (@zGl D' (a+(i:Int)*size) b m k (by have:=HLO.out;omega));have hno:=zz (@zAv D' (a+(i:Int)*size) b m k (by have:=HLO.out;omega));have hnw:=zz (@zA8 D' (a+(i:Int)*size+k) ((b.drop (512*k)).take 512));clear hbs hw1 hw2 hw3 hw4 hw5 hw6 hw7 hw8 l1 l3;generalize (b.drop (512*k)).take 512=ch at*;rw [hg']at*;go_wp2_with fail
    refine(z8H h' D' (a+(i:Int)*size+k) _ _ ch wr.drew D2.out PT.out.ok (by unfold InI;omega) HBS.out (by omega) (by have:=PT.out.pend;have:=hpp.out;omega)).mono ?_;rintro e w4 ⟨rfl,h4,hd4,hs4⟩;obtain⟨y,hy⟩:∃y,D'.why (a+(i:Int)*size+k) ch=y:=⟨_,rfl⟩;rw [hy];by_cases hy0:y=0
    .subst hy0;have PT4:Hid (PtSt h h4 w w4 D (D'.write (a+(i:Int)*size+k) ch) (a+(i:Int)*size) b k0 (k+1) m):=
      ⟨hd4,PT.out.ok.write _ _,S2.out.trans hs4,PT.out.eq.trans (hgo.out hy),by have:=PT.out.fuel;omega,by have:=PT.out.pend;omega⟩
     have hlk:k<100:=by have:=HLO.out;omega
     clear hy hd4 hs4 hwo;go_wp2_with fail
     go_roundw
     case rel=>exact⟨k+1,m,_,h4,by go_num,by omega,PT4⟩
     case measure=>simp [intOf];omega
    .have hy1:¬ ((y:Int)=0):=by omega
     have hy2:((y:Int)==0)=false:=by rw [yV];omega
     have HY0:=zz hy0;have HY:=zz hy;have D4:=zz hd4;have S4:=zz (S2.out.trans hs4);clear hy0 hy hd4 hs4 hwo;go_wp2_with fail
     go_ret
     have e1:=PT.out.eq.trans (hno.out (by rw [HY.out];exact HY0.out));rw [HY.out]at e1;rw [e1];refine⟨rfl,h4,?_,S4.out⟩;have:=D4.out;rw [hnw.out (by rw [HY.out];exact HY0.out)]at this;exact this
   .have i4:¬ (b.length:Int)<(hj:Int):=by omega
    have i7:min (hj:Int) (b.length:Int)=(hj:Int):=by omega
    have hch:Hid ((b.drop lo).take (hj-lo)=(b.drop (512*k)).take 512):=by
     rw [Hid,HLO.out];have:=HJ.out;by_cases h9:hj-lo=512
     .rw [h9]
     .rw [ya (by rw [yI];omega),ya (by rw [yI];omega)]
    have i5:(lo:Int)<=(hj:Int):=by omega
    have i6:(hj:Int)<=(c0:Int):=by omega
    go_wp2_with fail
    go_still_tail 22,(by kernel_rfl)
    change wpList _ _ _ _ _ wr.drew;have D2:=zz (PT.out.dk.later (below_drewN (y7 wr.heap.size wr) 1));have B2:=zz (BR.out.later (below_drewN (y7 wr.heap.size wr) 1));have S2:=zz (PT.out.st.trans (Stp.below (below_drewN (y7 wr.heap.size wr) 1)));have hg':h.g=h'.g:=S2.out.g.symm;have hbs:Bs (UbS wr.drew 0) wr.drew (.slice (some ⟨bb,ob+lo,none⟩) (hj-lo) (c0-lo)) ((b.drop lo).take (hj-lo)):=by
     have h9:=Bs.cut (k:=lo) B2.out (by omega);rw [yA hi2,<-yI]at h9;exact Bs.pre h9 (by rw [yI];omega)
    rw [hch.out]at hbs;have HBS:=zz hbs;have hck:((b.drop (512*k)).take 512).length<=512:=by rw [yC];omega
    have hwo:=z4q D' (a+(i:Int)*size+k) ((b.drop (512*k)).take 512);obtain⟨m,rfl⟩:∃j,m=j+1:=⟨m-1,by have:=PT.out.fuel;have:=HLO.out;omega⟩;have hgo:=zz (@zGl D' (a+(i:Int)*size) b m k (by have:=HLO.out;omega));have hno:=zz (@zAv D' (a+(i:Int)*size) b m k (by have:=HLO.out;omega));have hnw:=zz (@zA8 D' (a+(i:Int)*size+k) ((b.drop (512*k)).take 512));clear hbs hw1 hw2 hw3 hw4 hw5 hw6 hw7 hw8 l1 l3;generalize (b.drop (512*k)).take 512=ch at*;rw [hg']at*;go_wp2_with fail
    refine(z8H h' D' (a+(i:Int)*size+k) _ _ ch wr.drew D2.out PT.out.ok (by unfold InI;omega) HBS.out (by omega) (by have:=PT.out.pend;have:=hpp.out;omega)).mono ?_;rintro e w4 ⟨rfl,h4,hd4,hs4⟩;obtain⟨y,hy⟩:∃y,D'.why (a+(i:Int)*size+k) ch=y:=⟨_,rfl⟩;rw [hy];by_cases hy0:y=0
    .subst hy0;have PT4:Hid (PtSt h h4 w w4 D (D'.write (a+(i:Int)*size+k) ch) (a+(i:Int)*size) b k0 (k+1) m):=
      ⟨hd4,PT.out.ok.write _ _,S2.out.trans hs4,PT.out.eq.trans (hgo.out hy),by have:=PT.out.fuel;omega,by have:=PT.out.pend;omega⟩
     have hlk:k<100:=by have:=HLO.out;omega
     clear hy hd4 hs4 hwo;go_wp2_with fail
     go_roundw
     case rel=>exact⟨k+1,m,_,h4,by go_num,by omega,PT4⟩
     case measure=>simp [intOf];omega
    .have hy1:¬ ((y:Int)=0):=by omega
     have hy2:((y:Int)==0)=false:=by rw [yV];omega
     have HY0:=zz hy0;have HY:=zz hy;have D4:=zz hd4;have S4:=zz (S2.out.trans hs4);clear hy0 hy hd4 hs4 hwo;go_wp2_with fail
     go_ret
     have e1:=PT.out.eq.trans (hno.out (by rw [HY.out];exact HY0.out));rw [HY.out]at e1;rw [e1];refine⟨rfl,h4,?_,S4.out⟩;have:=D4.out;rw [hnw.out (by rw [HY.out];exact HY0.out)]at this;exact this
  .have hfin:Hid (z3t D' (a+(i:Int)*size) b m k=(D',0)):=zIT (by omega);clear hlo;go_wp2_with fail
   go_ret
   have e1:=PT.out.eq;rw [hfin.out]at e1;rw [e1];exact⟨rfl,h',PT.out.dk,PT.out.st⟩
end
section
open Go Tryz
structure Wl.Ok(l:Wl):Prop where
 dok:l.D.Ok
 n2:2<=l.n
 n64:l.n<=64
 s1:1<=l.size
 s64:l.size<=64
 a0:0<=l.a
 a1:l.a+(l.n:Int)*l.size<=65536
 last:l.last<U64
 synced:l.synced<U64
 nd:(l.live.map (·.at')).Nodup
 lt:∀s∈l.live,s.at'<l.n
 str:l.stream≠ []->l.live≠ []
 slen:l.stream.length<=512*l.size
theorem Wl.Ok.len{l:Wl}(h:l.Ok):l.live.length<=l.n:=by
 have:=z3N l.n (l.live.map (·.at')) h.nd (fun x hx=>by
  obtain⟨y,hy,rfl⟩:=yP.1 hx;exact h.lt y hy)
 simpa using this
theorem Wl.Ok.am{l:Wl}(h:l.Ok):l.a<=65536:=by
 have:=h.a1;have h2:(0:Int)<=(l.n:Int)*l.size:=Int.mul_nonneg (by omega) (by omega);omega
theorem z6C:∀ (l:List Sg),(z3q l).map (·.at')=l.map (·.at')
 | []=>rfl
 | [s]=>rfl
 |s::t::r=>by
  have:=z6C (t::r);simp only [z3q,yy]at this ⊢;rw [this]
theorem z5X(s:Sg):∀ (l:List Sg),z3q (l++ [s])=l++ [{s with count:=(s.count+1)%U64}]
 | []=>rfl
 | [t]=>rfl
 |t::u::r=>by
  have:=z5X s (u::r);simp only [Y8,z3q]at this ⊢;rw [this]
theorem z7i{live:List Sg}{n i:Nat}(h:z37 live n=some i):i<n/\z2p live i=false:=by
 unfold z37 at h;have h1:=Yu h;have h2:=yr h;exact⟨yt.1 h2,by simpa using h1⟩
theorem zGk{live:List Sg}{n i:Nat}(hi:i<n)(hb:∀j,j<i->z2p live j=true)(hu:z2p live i=false):z37 live n=some i:=by
 unfold z37;rw [List.find?_range_eq_some];exact⟨by simp [hu],yt.2 hi,fun j hj=>by simp [hb j hj]⟩
theorem zBw{live:List Sg}{n:Nat}(hb:∀j,j<n->z2p live j=true):z37 live n=none:=by
 unfold z37;rw [Yk];intro x hx;simp [hb x (yt.1 hx)]
structure ApC(l:Wl)(q:Nat)(head b:List UInt8)(L:List Sg)(s:List UInt8)(i:Nat)(fr:Bool):Prop where
 fresh:fr=true->(l.stream= []∨512*l.size<l.stream.length+b.length)/\z37 l.live l.n=some i/\L=l.live++ [⟨i,q,0⟩]/\s=head
 old:fr=false->¬ (l.stream= []∨512*l.size<l.stream.length+b.length)/\L=l.live/\s=l.stream/\((l.live.getLast?).map (·.at')).getD 0=i
def z1l(l:Wl)(fr:Bool):Nat:=if fr then 0 else l.stream.length
section
variable {l:Wl} {q:Nat} {t head b:List UInt8} {L:List Sg} {s:List UInt8} {i:Nat} {fr:Bool}
theorem z4U(hq:q=(l.last+1)%U64)(hh:head=z7Q q titleB)(hb:b=z7Q q t)(ht:¬ (32768<t.length∨512*l.size<head.length+b.length))(c:ApC l q head b L s i fr)
 {r:Dsk×Nat} (hr:z3t l.D (l.a+(i:Int)*l.size) (s++b) (s++b).length (z1l l fr / 512)=r) (h0:r.2=0):
 z0P l t=({l with D:=r.1,live:=z3q L,stream:=s++b,last:=q},q,0):=by
 subst hq hh hb;unfold z0P;rw [yA ht];cases fr with
 |true=>
  obtain⟨h1,h2,rfl,rfl⟩:=c.fresh rfl;rw [yB h1,h2];simp only [z1l,YN,Nat.zero_div]at hr;simp only [hr,h0,YN]
 |false=>
  obtain⟨h1,rfl,rfl,h4⟩:=c.old rfl;rw [yA h1];simp only [z1l,yu,yv]at hr;simp only [h4,hr,h0,YN]
theorem z5r(hq:q=(l.last+1)%U64)(hh:head=z7Q q titleB)(hb:b=z7Q q t)(ht:¬ (32768<t.length∨512*l.size<head.length+b.length))(c:ApC l q head b L s i fr)
 {r:Dsk×Nat} (hr:z3t l.D (l.a+(i:Int)*l.size) (s++b) (s++b).length (z1l l fr / 512)=r) (h0:r.2≠0):
 z0P l t=(if fr then(({l with D:=z68 r.1 (l.a+(i:Int)*l.size) l.size,stream:= []}:Wl).sync,0,r.2)else({l with D:=r.1,stream:= []},0,r.2)):=by
 subst hq hh hb;unfold z0P;rw [yA ht];cases fr with
 |true=>
  obtain⟨h1,h2,rfl,rfl⟩:=c.fresh rfl;rw [yB h1,h2];simp only [z1l,YN,Nat.zero_div]at hr;simp only [hr,h0,YN,yv]
 |false=>
  obtain⟨h1,rfl,rfl,h4⟩:=c.old rfl;rw [yA h1];simp only [z1l,yu,yv]at hr;simp only [h4,hr,h0,yv,yu]
theorem ApC.lens(c:ApC l q head b L s i fr)(ok:l.Ok)(ht:¬ (32768<t.length∨512*l.size<head.length+b.length)):
 (s++b).length<=512*l.size/\i<l.n/\z1l l fr<=(s++b).length/\z2p l.live i= !fr/\L.length<=l.n:=by
 cases fr with
 |true=>
  obtain⟨h1,h2,rfl,rfl⟩:=c.fresh rfl;have h3:=z7i h2;refine⟨by rw [y6];omega,h3.1,by simp [z1l],h3.2,?_⟩;have hnd:((l.live++ [(⟨i,q,0⟩:Sg)]).map (fun s:Sg=>s.at')).Nodup:=by
   rw [Y6,ZI];refine⟨ok.nd,by simp,fun x hx y hy e9=> ?_⟩;simp only [yy,Yx,yJ]at hy;obtain⟨z,hz,e⟩:=yP.1 hx;have:z2p l.live i=true:=z4A.2 ⟨z,hz,(e.trans e9).trans hy⟩;rw [h3.2]at this;cases this
  have:=z3N l.n _ hnd (fun x hx=>by
   rw [Y6,yF]at hx;rcases hx with hx|hx
   .obtain⟨z,hz,rfl⟩:=yP.1 hx;exact ok.lt z hz
   .simp only [yy,Yx,yJ]at hx;rw [hx];exact h3.1)
  simpa using this
 |false=>
  obtain⟨h1,rfl,rfl,h4⟩:=c.old rfl;have hne:l.live≠ []:=ok.str (fun e=>h1 (.inl e));have hm:=List.getLast_mem hne;rw [QO hne]at h4;simp only [Z0,Yl]at h4;subst h4;refine⟨by rw [y6];omega,ok.lt _ hm,by simp [z1l],?_,ok.len⟩;simp only [Bool.not_false];exact z4A.2 ⟨_,hm,rfl⟩
theorem ApC.ne(c:ApC l q head b L s i fr)(ok:l.Ok):∃L0 s0,L=L0++ [s0]/\s0.at'=i:=by
 cases fr with
 |true=>
  obtain⟨h1,h2,rfl,rfl⟩:=c.fresh rfl;exact⟨_,_,rfl,rfl⟩
 |false=>
  obtain⟨h1,rfl,rfl,h4⟩:=c.old rfl;have hne:l.live≠ []:=ok.str (fun e=>h1 (.inl e));rw [QO hne]at h4;simp only [Z0,Yl]at h4;exact⟨_,_,(Zc hne).symm,h4⟩
theorem ApC.ok(c:ApC l q head b L s i fr)(ok:l.Ok)(hq:q<U64)(ht:¬ (32768<t.length∨512*l.size<head.length+b.length)){D:Dsk}(hD:D.Ok):({l with D:=D,live:=z3q L,stream:=s++b,last:=q}:Wl).Ok:=by
 have hl:=c.lens (t:=t) ok ht;have hin:(L.map (·.at')).Nodup/\∀x∈L,x.at'<l.n:=by
  cases fr with
  |true=>
   obtain⟨h1,h2,rfl,rfl⟩:=c.fresh rfl;have h3:=z7i h2;refine⟨?_,fun x hx=> ?_⟩
   .rw [Y6,ZI];refine⟨ok.nd,by simp,fun x hx y hy e9=> ?_⟩;simp only [yy,Yx,yJ]at hy;obtain⟨z,hz,e⟩:=yP.1 hx;have:z2p l.live i=true:=z4A.2 ⟨z,hz,(e.trans e9).trans hy⟩;rw [h3.2]at this;cases this
   .rw [yF,yJ]at hx;rcases hx with hx|rfl
    .exact ok.lt x hx
    .exact h3.1
  |false=>
   obtain⟨h1,rfl,rfl,h4⟩:=c.old rfl;exact⟨ok.nd,ok.lt⟩
 refine⟨hD,ok.n2,ok.n64,ok.s1,ok.s64,ok.a0,ok.a1,hq,ok.synced,by rw [z6C];exact hin.1,fun x hx=> ?_,fun _ e=> ?_,hl.1⟩
 .have:x.at'∈(z3q L).map (·.at'):=yP.2 ⟨x,hx,rfl⟩;rw [z6C]at this;obtain⟨z,hz,e⟩:=yP.1 this;rw [<-e];exact hin.2 z hz
 .obtain⟨L0,s0,rfl,_⟩:=c.ne ok;have e2:(z3q (L0++ [s0]))= []:=e;rw [z5X]at e2;simp at e2
end
theorem Wl.Ok.drop{l:Wl}(ok:l.Ok){D:Dsk}(hD:D.Ok):({l with D:=D,stream:= []}:Wl).Ok:=⟨hD,ok.n2,ok.n64,ok.s1,ok.s64,ok.a0,ok.a1,ok.last,ok.synced,ok.nd,ok.lt,fun h=>(h rfl).elim,yU _⟩
theorem Wl.Ok.sync{l:Wl}(ok:l.Ok):l.sync.Ok:=⟨ok.dok.sync,ok.n2,ok.n64,ok.s1,ok.s64,ok.a0,ok.a1,ok.last,ok.last,ok.nd,ok.lt,ok.str,ok.slen⟩
end
section
open Go Go.RowKit Tryz
theorem zK3{w:World}{B:Nat}{v:Value}{L:List Sg}(h:w.ownsRow B 212 3 v L.length (z4y L))(hn:0<L.length):∃g c,v= .slice (some ⟨g,0,none⟩) L.length c/\B<=g/\Hid (∀j,w.frozen? ⟨g,j,none⟩=false)/\
 Hid (∀j (hj:j<L.length),w.cell? ⟨g,j*3,none⟩=some (.int .i64 (L[j].at':Int))/\w.cell? ⟨g,j*3+1,none⟩=some (.int .u64 (L[j].base:Int))/\w.cell? ⟨g,j*3+2,none⟩=some (.int .u64 (L[j].count:Int))):=by
 obtain⟨A,c,hv,_,_,hA⟩:=Rg3.at (KSl.of_own (by omega) h);rcases h.2 with⟨h2,h3⟩|⟨g,cap,cur,h2,hg,hh,_⟩
 .omega
 .obtain⟨b,o,hA1,_,hc⟩:=hA hn;rw [h2]at hv;injection hv with e1 _ e3
  rw [hA1]at e1;injection e1 with e1
  injection e1 with e1 e2
  subst e1 e2;refine⟨g,cap,h2,hg,fun j=>by simp [World.frozen?,hh],fun j hj=> ?_⟩;have:=hc j hj;simpa using this
theorem z8i(a b c c':Nat):∀ (L0:List Sg),z4y (L0++ [⟨a,b,c'⟩])=(z4y (L0++ [⟨a,b,c⟩])).set (L0.length*3+2) (.int .u64 (c':Int))
 | []=>rfl
 |s::L0=>by
  have ih:=z8i a b c c' L0;have e:∀ (x:Sg) (L:List Sg),z4y (x::L)= .int .i64 (x.at':Int):: .int .u64 (x.base:Int):: .int .u64 (x.count:Int)::z4y L:=fun _ _=>rfl
  rw [Y8,e,ih,Y8,e,y8,show(L0.length+1)*3+2=L0.length*3+2+1+1+1 by omega];simp only [List.set_cons_succ]
theorem zK1{w:World}{B g c:Nat}{L0:List Sg}{s0:Sg}(h:w.ownsRow B 212 3 (.slice (some ⟨g,0,none⟩) (L0.length+1) c) (L0++ [s0]).length (z4y (L0++ [s0]))):
 (w.setCell ⟨g,L0.length*3+2,none⟩ (.int .u64 (((s0.count+1)%U64:Nat):Int))).ownsRow B 212 3 (.slice (some ⟨g,0,none⟩) (L0.length+1) c) (z3q (L0++ [s0])).length (z4y (z3q (L0++ [s0]))):=by
 obtain⟨a,b,k⟩:=s0;rw [z5X,z8i a b k];simp only [y6,Y7]at h ⊢;exact(World.ownsRow.stored h (L0.length*3+2) _).1
theorem z9c{w:World}{B:Nat}{A:Option Addr}{c:Nat}{L0:List Sg}{s0:Sg}(h:w.ownsRow B 212 3 (.slice A (L0++ [s0]).length c) (L0++ [s0]).length (z4y (L0++ [s0]))):∃g,A=some ⟨g,0,none⟩/\B<=g/\Hid (∀j,w.frozen? ⟨g,j,none⟩=false)/\
 Hid (w.cell? ⟨g,L0.length*3,none⟩=some (.int .i64 (s0.at':Int))/\w.cell? ⟨g,L0.length*3+2,none⟩=some (.int .u64 (s0.count:Int))):=by
 have hl:L0.length<(L0++ [s0]).length:=by simp
 obtain⟨g,c',hv,hB,FZ,CE⟩:=zK3 h (by omega);injection hv with e1 _ _
 have:=CE.out L0.length hl;have hx:(L0++ [s0])[L0.length]'hl=s0:=by simp
 rw [hx]at this;exact⟨g,e1,hB,FZ,this.1,this.2.2⟩
theorem zK2{w w':World}{B B' g c:Nat}{L0:List Sg}{s0:Sg}{v:Value}{l:List UInt8}{i:Nat}(h:w.ownsRow B 212 3 (.slice (some ⟨g,0,none⟩) (L0++ [s0]).length c) (L0++ [s0]).length (z4y (L0++ [s0])))(ho:Ob 5 w B' v l)(hg:w.grownBy w' v.ownBlock)(hi:s0.at'=i):
 Hid (w'.ownsRow B 212 3 (.slice (some ⟨g,0,none⟩) (L0++ [s0]).length c) (L0++ [s0]).length (z4y (L0++ [s0])))/\w'.cell? ⟨g,L0.length*3,none⟩=some (.int .i64 (i:Int)):=by
 have h2:=z5J (ks:= [some 212]) h (SameK.grown hg fun z t hz ht=>by
  have:=z2T ho hz;rw [this]at ht;cases ht
  decide) (by decide)
 obtain⟨g',e,_,_,CE⟩:=z9c h2;injection e with e
 injection e with e
 subst e hi;exact⟨h2,CE.out.1⟩
theorem ApC.last{l:Wl}{q:Nat}{t head b:List UInt8}{L0:List Sg}{s0:Sg}{s:List UInt8}{i:Nat}{fr:Bool}(c:ApC l q head b (L0++ [s0]) s i fr)(ok:l.Ok)(ht:¬ (32768<t.length∨512*l.size<head.length+b.length)):L0.length<=64:=by
 have h1:=(c.lens (t:=t) ok ht).2.2.2.2;have h2:=ok.n64;rw [y6,Y7]at h1;omega
structure LgV(w:World)(gl:Nat)(h:Zn)(l:Wl)(lv sv:Value):Prop where
 dk:Dk w h l.D
 lb:Lb w gl h.g l.a l.n l.size lv sv l.last l.synced
 live:Rg3 w lv l.live
 str:Ub w 0 sv l.stream
def Lg(w:World)(gl:Nat)(h:Zn)(l:Wl):Prop:=∃lv sv,LgV w gl h l lv sv
section
variable {w w':World} {gl:Nat} {h h':Zn} {l:Wl} {lv sv:Value} {D':Dsk}
theorem LgV.later(g:LgV w gl h l lv sv)(hb:Below w.heap.size w w'):LgV w' gl h l lv sv:=⟨g.dk.later hb,g.lb.later hb,KSl.later g.live hb,g.str.later hb⟩
theorem LgV.stp(g:LgV w gl h l lv sv)(k:Dk w' h' D')(s:Stp h w h' w'):LgV w' gl h' {l with D:=D'} lv sv:=
 ⟨k,by rw [s.g];exact s.lb g.dk g.lb,KSl.same g.live (s.same (ks:= [some 212]) g.dk (by decide) (by decide) (by decide)) (by decide),s.ub g.dk g.str⟩
theorem Lg.later(g:Lg w gl h l)(hb:Below w.heap.size w w'):Lg w' gl h l:=by
 obtain⟨lv,sv,g⟩:=g;exact⟨lv,sv,g.later hb⟩
end
def lgKs:List (Option TypeId):=some 212::dkKs
theorem SameK.dk{w w':World}(h:SameK lgKs w w'):SameK dkKs w w':=h.less fun t ht=>ym _ ht
theorem LgV.sync{w w':World}{gl:Nat}{h h':Zn}{l:Wl}{lv sv:Value}(g:LgV w gl h l lv sv)(hd:Dk w' h' l.D.sync)(hl:Lb w' gl h.g l.a l.n l.size lv sv l.last l.last)(m:Mtp h gl w h' w'):LgV w' gl h' l.sync lv sv:=by
 have hs:SameK [some 212,some 5] w w':=m.sameL g.dk g.lb (by decide) (by decide) (by decide) (by decide);exact⟨hd,by rw [m.g];exact hl,KSl.same g.live hs (by decide),g.str.same hs (by decide)⟩
section
variable {w w7:World} {gl gL c8 B:Nat} {h h7:Zn} {l:Wl} {D7:Dsk} {lv sv v5:Value} {L0:List Sg} {s0:Sg} {S5:List UInt8} {q:Nat}
theorem zJd(G:LgV w7 gl h7 {l with D:=D7} lv sv)(hL:w7.ownsRow B 212 3 (.slice (some ⟨gL,0,none⟩) (L0.length+1) c8) (L0++ [s0]).length (z4y (L0++ [s0])))(hB:w.heap.size<=gL)(hs:Ub w7 0 v5 S5)(st:Stp h w h7 w7)
 {W8:World} (hW:w7.setCell ⟨gL,L0.length*3+2,none⟩ (.int .u64 (((s0.count+1)%U64:Nat):Int))=W8):
 Lb W8 gl h7.g l.a l.n l.size lv sv l.last l.synced/\LgV (((W8.setCell ⟨gl,4,none⟩ (.slice (some ⟨gL,0,none⟩) (L0.length+1) c8)).setCell ⟨gl,5,none⟩ v5).setCell ⟨gl,6,none⟩ (.int .u64 (q:Int))) gl h7 {l with D:=D7,live:=z3q (L0++ [s0]),stream:=S5,last:=q} (.slice (some ⟨gL,0,none⟩) (L0.length+1) c8) v5/\
  Mtp h gl w h7 (((W8.setCell ⟨gl,4,none⟩ (.slice (some ⟨gL,0,none⟩) (L0.length+1) c8)).setCell ⟨gl,5,none⟩ v5).setCell ⟨gl,6,none⟩ (.int .u64 (q:Int))):=by
 have hne:gl≠gL:=fun e=>z31 hL G.lb (by decide) (by rw [e];rfl)
 have hg:w7.grownBy (w7.setCell ⟨gL,L0.length*3+2,none⟩ (.int .u64 (((s0.count+1)%U64:Nat):Int))) (some gL):=by
  have h9:=hL;simp only [y6,Y7]at h9;exact(World.ownsRow.stored h9 (L0.length*3+2) _).2
 have k8:SameK dkKs w7 W8:=by
  rw [<-hW];exact SameK.grown hg fun z t hz ht=>by
   have:=z2T hL hz;rw [this]at ht;cases ht
   decide
 have b8:Lb W8 gl h7.g l.a l.n l.size lv sv l.last l.synced:=by rw [<-hW];exact Blk.far (p:=⟨gL,L0.length*3+2,none⟩) G.lb hne _
 have o8:=zK1 hL;rw [hW]at o8;have k9:SameK lgKs W8 (((W8.setCell ⟨gl,4,none⟩ (.slice (some ⟨gL,0,none⟩) (L0.length+1) c8)).setCell ⟨gl,5,none⟩ v5).setCell ⟨gl,6,none⟩ (.int .u64 (q:Int))):=
  ((SameK.setCell (p:=⟨gl,4,none⟩) b8 (by decide) _).trans (SameK.setCell (p:=⟨gl,5,none⟩) (b8.put 4 _) (by decide) _)).trans (SameK.setCell (p:=⟨gl,6,none⟩) ((b8.put 4 _).put 5 _) (by decide) _)
 have l9:(((W8.setCell ⟨gl,4,none⟩ (.slice (some ⟨gL,0,none⟩) (L0.length+1) c8)).setCell ⟨gl,5,none⟩ v5).setCell ⟨gl,6,none⟩ (.int .u64 (q:Int))).ownsRow B 212 3 (.slice (some ⟨gL,0,none⟩) (L0.length+1) c8) (z3q (L0++ [s0])).length (z4y (z3q (L0++ [s0]))):=z5J o8 k9 (by decide);refine⟨b8,⟨(G.dk.same k8).same k9.dk,((b8.put 4 _).put 5 _).put 6 _,KSl.of_own (by omega) l9,(hs.same k8 (by decide)).same k9 (by decide)⟩,st.g,?_,st.has⟩;rw [<-hW];exact((((st.turn.mono (F':=fun b=>h.has b∨b=gl) fun b hb _=>Or.inl hb).setCell (p:=⟨gL,L0.length*3+2,none⟩) (.inr hB) _).setCell (p:=⟨gl,4,none⟩) (.inl (.inr rfl)) _).setCell (p:=⟨gl,5,none⟩) (.inl (.inr rfl)) _).setCell (p:=⟨gl,6,none⟩) (.inl (.inr rfl)) _
theorem zJe(G:LgV w7 gl h7 {l with D:=D7} lv sv)(hL:w7.ownsRow B 212 3 (.slice (some ⟨gL,0,none⟩) (L0.length+1) c8) (L0++ [s0]).length (z4y (L0++ [s0])))(st:Stp h w h7 w7)
 {W8:World} (hW:w7.setCell ⟨gl,5,none⟩ (.slice none 0 0)=W8):
 LgV W8 gl h7 {l with D:=D7,stream:= []} lv (.slice none 0 0)/\Mtp h gl w h7 W8/\W8.cell? ⟨gL,L0.length*3,none⟩=some (.int .i64 (s0.at':Int)):=by
 subst hW;have k9:SameK lgKs w7 (w7.setCell ⟨gl,5,none⟩ (.slice none 0 0)):=SameK.setCell (p:=⟨gl,5,none⟩) G.lb (by decide) _;have o9:=z5J hL k9 (by decide);have e9:(L0++ [s0]).length=L0.length+1:=by simp
 rw [<-e9]at o9;obtain⟨g',e,_,_,CE⟩:=z9c o9;injection e with e
 injection e with e
 subst e;exact⟨⟨G.dk.same k9.dk,G.lb.put 5 _,KSl.same G.live k9 (by decide),(Sl.nil:Bs _ _ _ [])⟩,⟨st.g,(st.turn.mono (F':=fun b=>h.has b∨b=gl) fun b hb _=>Or.inl hb).setCell (p:=⟨gl,5,none⟩) (.inl (.inr rfl)) _,st.has⟩,CE.out.1⟩
theorem Mtp.stp{w1 w2:World}{h1 h2:Zn}(m:Mtp h gl w h1 w1)(s:Stp h1 w1 h2 w2):Mtp h gl w h2 w2:=
 ⟨s.g.trans m.g,m.turn.trans s.turn fun b hb=>(m.has b hb).imp Or.inl id,fun b hb=>(s.has b hb).elim (m.has b) fun h9=> .inr (yD m.turn.size h9)⟩
theorem Mtp.mtp{w1 w2:World}{h1 h2:Zn}(m:Mtp h gl w h1 w1)(s:Mtp h1 gl w1 h2 w2):Mtp h gl w h2 w2:=
 ⟨s.g.trans m.g,m.turn.trans s.turn fun b hb=>hb.elim (fun h9=>(m.has b h9).imp Or.inl id) (fun h9=> .inl (.inr h9)),fun b hb=>(s.has b hb).elim (m.has b) fun h9=> .inr (yD m.turn.size h9)⟩
end
theorem zGV(t:Nat)(h:t<U64):bits .xor .u64 IntKind.u64.max (t:Int)=((18446744073709551615-t:Nat):Int):=by
 unfold U64 at h;have e:IntKind.u64.max=((18446744073709551615:Nat):Int):=rfl;rw [e,bits_xor_u64_nat _ _ (by omega) h]
 congr 1
 have h2:(18446744073709551615:Nat)=(BitVec.allOnes 64).toNat:=rfl;have h3:t=(BitVec.ofNat 64 t).toNat:=by rw [QX];omega
 rw [h3,h2,<-BitVec.toNat_xor];have h4:BitVec.allOnes 64 ^^^ BitVec.ofNat 64 t= ~~~(BitVec.ofNat 64 t):=BitVec.allOnes_xor;rw [h4,BitVec.toNat_not];rfl
theorem z84{P:Program}(w:World){ops:Array Oper}{rest:List Oper}{o:Oper}{a:Act}{Q:Exit->Act->World->Prop}(hg:o.guard=none)(l c:Operand){t e:TypeId}
 (E:Elem P t e (.int .u8 0) 1 1) (hop:o.op=Op.makeSlice t l c) (base:Nat) {kl kc:IntKind} {C:Int} (n:Nat) (hl:a.eval l= .int kl 0) (hc:a.eval c= .int kc C) (hC:C=(n:Int)) (b:n<=140737488355328) (hB:base<=w.heap.size)
 (hK:∀w',Ob e w' base (.slice (some ⟨w.heap.size,0,none⟩) 0 n) []->Below base w w'->wpList P ops Q rest (a.put o.dst (.slice (some ⟨w.heap.size,0,none⟩) 0 n)) w'):wpList P ops Q (o::rest) a w:=by
 obtain⟨i,hi,hz,hsz,hby⟩:=E.info;refine wpList_make_own w hg l c t hop base e i (.int .u8 0) 1 E.under hi hz hsz kl kc C n hl hc hC (by rw [hby];omega) (by simp only [maxLen];omega) hB fun w' h1 h2=> ?_
 exact hK w' h1 ((y7 _ _).grown h2 hB (fun k hk=>by cases hk))
theorem z72(B bo:Nat)(A:Option Addr)(k c:Nat)(l m:List UInt8)(w:World)(ho:Blk w bo 78 #[.slice A k c])(hown:Ob 5 w B (.slice A k c) l)(hB:B<=w.heap.size)(hl:l.length+m.length<=140737488355328)(hBo:B<=bo):
 Calls prog 118 #[.string (st m),.pointer (some ⟨bo,0,none⟩)] w fun e w'=>e= .returned (.tuple #[])/\∃A' k' c',Blk w' bo 78 #[.slice A' k' c']/\Ob 5 w' B (.slice A' k' c') (l++m)/\Below B w w':=by
 have c0:=ho.cell 0;simp at c0;go_enter func118,ntmps118
 go_wp2_with (at_builtin;go_loud (refine z3p _ rfl (.tmp 3) (.tmp 4) z0p tS rfl hown rfl rfl hl hB ?_);intro A2 k2 c2 w2 hown2 hg2;have ho2:=ho.kept hown hg2 (by decide);have d0:=ho2.cell 0;simp at d0;have d1:=ho2.free 0)
 go_end0
 exact⟨rfl,A2,k2,c2,ho2.put1 _,z3g hown2 ho2 (by decide) 0 _,(z01 (y7 _ _) hown hg2 hB).setCell hBo _⟩
theorem zDV{l:List UInt8}{i:Nat}(h:i<l.length)(h0:l[i].toNat=0):z2K (l.take (i+1))=z2K (l.take i)++ [0,255]:=by
 have h0':l[i]=0:=Yt.1 h0;rw [yO h,h0',zDU]
theorem zDW{l:List UInt8}{i:Nat}(h:i<l.length)(h0:¬l[i].toNat=0):z2K (l.take (i+1))=z2K (l.take i)++ [l[i]]:=by
 rw [yO h,zFF _ (fun he=>h0 (by rw [he];rfl))]
theorem zHS{l:List UInt8}{i:Nat}(h:i<l.length):(l.drop i).take 1= [l[i]]:=by
 rw [yL h];rfl
theorem zJZ(l:List UInt8)(t:Nat)(w:World)(hb:BitsOk w)(ht:t<U64)(hl:l.length<=64):
 Calls prog 80 #[.string (st l),.int .u64 t] w fun e w'=>∃A k c,e= .returned (.tuple #[.slice A k c,.int .i64 0])/\Ob 5 w' w.heap.size (.slice A k c) (z1b l t)/\Below w.heap.size w w':=by
 have HB:=zz hb;clear hb;have hmf:=z0N prog;have l1:(⟨#[0,255]⟩:ByteArray)=st [0,255]:=rfl;have l2:(⟨#[0,1]⟩:ByteArray)=st [0,1]:=rfl;have t1:¬ (64:Int)<(l.length:Int):=by omega
 have HT:=zz (zGV t ht);have hkl:(z2K l).length<=128:=by have:=z9E l;omega
 go_enter func80,ntmps80
 go_wp2_with (refine z84 _ rfl (.const (.int .i64 0)) (.tmp 14) z0p rfl w.heap.size (l.length+10) rfl rfl (by omega) (by omega) (y5 _) ?_;intro w1 hown1 hbl1)
 have hs1:=hbl1.size;have R0:Blk (w1.alloc (.cells #[.slice (some ⟨w.heap.size,0,none⟩) 0 (l.length+10)] 78)) w1.heap.size 78 #[.slice (some ⟨w.heap.size,0,none⟩) 0 (l.length+10)]/\
  Ob 5 (w1.alloc (.cells #[.slice (some ⟨w.heap.size,0,none⟩) 0 (l.length+10)] 78)) w.heap.size (.slice (some ⟨w.heap.size,0,none⟩) 0 (l.length+10)) (z2K (l.take 0))/\Below w.heap.size w (w1.alloc (.cells #[.slice (some ⟨w.heap.size,0,none⟩) 0 (l.length+10)] 78)):=
  ⟨Blk.new _ _ _,hown1.alloc _,hbl1.alloc hs1 _⟩
 clear hown1 hbl1;go_loopw [19] (fun iv wr=>∃ (i:Nat) (A:Option Addr) (k c:Nat),iv= .int .i64 (i:Int)/\i<=l.length/\Blk wr w1.heap.size 78 #[.slice A k c]/\Ob 5 wr w.heap.size (.slice A k c) (z2K (l.take i))/\Below w.heap.size w wr) (fun iv _=>l.length-(intOf iv).toNat)
 case atStart=>exact⟨0,_,_,_,rfl,by omega,R0⟩
 case round=>
  obtain⟨i,A,k,c,rfl,hi,hbo,hown,hbl⟩:=hrel;clear R0;have hsz:=hbl.size;by_cases hil:i<l.length
  .have hki:(z2K (l.take i)).length<=128:=by have h1:=z9E (l.take i);have h2:(l.take i).length<=i:=List.length_take_le _ _;omega
   by_cases h0:l[i].toNat=0
   .have HK:=zz (zDV hil h0);have z0:((l[i].toNat:Int)==0)=true:=by simp [h0]
    clear h0;go_wp2_with fail
    refine(z72 w.heap.size w1.heap.size A k c _ [0,255] wr hbo hown hsz (by simp;omega) hs1).mono ?_;rintro e w3 ⟨rfl,A3,k3,c3,hbo3,hown3,hbl3⟩;go_wp2
    go_roundw
    case rel=>exact⟨i+1,A3,k3,c3,by go_num,by omega,hbo3,by rw [HK.out];exact hown3,hbl.trans hbl3⟩
    case measure=>simp [intOf];omega
   .have HK:=zz (zDW hil h0);have z0:((l[i].toNat:Int)==0)=false:=by rw [yV];omega
    have hd:=zHS hil;clear h0;go_wp2_with fail
    refine(z72 w.heap.size w1.heap.size A k c _ [l[i]] wr hbo hown hsz (by simp;omega) hs1).mono ?_;rintro e w3 ⟨rfl,A3,k3,c3,hbo3,hown3,hbl3⟩;go_wp2
    go_roundw
    case rel=>exact⟨i+1,A3,k3,c3,by go_num,by omega,hbo3,by rw [HK.out];exact hown3,hbl.trans hbl3⟩
    case measure=>simp [intOf];omega
  .obtain rfl:i=l.length:=by omega
   rw [YG]at hown;go_wp2_with fail
   refine(z72 w.heap.size w1.heap.size A k c _ [0,1] wr hbo hown hsz (by simp;omega) hs1).mono ?_;rintro e w3 ⟨rfl,A3,k3,c3,hbo3,hown3,hbl3⟩;have q3:=hbl.trans hbl3;have hs3:=q3.size;have c0:=hbo3.cell 0;simp at c0;clear hown hbo hbl hbl3;go_wp2_with fail
   rw [HT.out];refine(zFs _ _ (z2K l++ [0,1]) (18446744073709551615-t) 8 w3 (by omega) (by omega) (by unfold U64;omega) (fun h=>absurd h (by omega)) (HB.out.later q3) (by simp;omega) hown3.bs).mono ?_;rintro e w4 ⟨A4,k4,c4,rfl,hown4,hbl4⟩;have hbo4:=hbo3.later hbl4;have d0:=hbo4.cell 0;have d1:=hbo4.free 0;simp at d0;have q4:=q3.trans (hbl4.mono hs3);have HO4:Hid (Ob 5 w4 w.heap.size (.slice A4 k4 c4) (z1b l t)):=hown4.lower hs3;clear hown4 hbl4 hown3;go_wp2_with fail
   go_ret2
   exact⟨A4,k4,c4,rfl,z3g HO4.out hbo4 (by decide) 0 _,q4.setCell hs1 _⟩
theorem z71(l:List UInt8)(w:World)(hl:l.length<=9223372036854775806):
 Calls prog 50 #[.string (st l)] w fun e w'=>e= .returned (.string (st (l++ [0])))/\w=w':=by
 have l1:(⟨#[0]⟩:ByteArray)=st [0]:=rfl;go_enter func50,ntmps50
 go_wp2_with fail
 go_ret
 exact⟨rfl,rfl⟩
theorem Bs.oneB(w:World)(e:TypeId)(b:UInt8){g:Nat}(hg:g=w.heap.size):Bs (fun b=>b=w.heap.size) (w.alloc (.cells #[.int .u8 (b.toNat:Int)] e)) (.slice (some ⟨g,0,none⟩) 1 1) [b]:=
 Bs.lit w e [b] (by simp [maxLen]) (0,0) hg
def zJW:Option (List UInt8×Nat)->Value
 |some (k,d)=> .tuple #[.string (st k),.int .u64 ((18446744073709551615-d:Nat):Int),.int .i64 0]
 |none=> .tuple #[.string (st []),.int .u64 0,.int .i64 40]
theorem zDa(A:Option Addr)(n c:Nat)(w:World)(h:n<10):
 Calls prog 90 #[.slice A n c] w fun e w'=>e= .returned (zJW none)/\w=w':=by
 go_enter func90,ntmps90
 go_wp2_with fail
 go_ret3
 exact⟨rfl,rfl⟩
theorem zCU(S:Nat->Prop)(v0:Value)(s:List UInt8)(w:World)(hl:s.length<=1099511627776)(hr:Bs S w v0 s):
 Calls prog 90 #[v0] w fun e w'=>e= .returned (zJW (z3L s))/\Below w.heap.size w w':=by
 have HR:Hid (Bs (fun b=>b<w.heap.size) w v0 s):=(Sl.lt hr (by omega)).more (fun _ h=>h.2);obtain⟨A,c,rfl,hlc,hcm,hA0,hA⟩:=hr.at;by_cases h10:s.length<10
 .have HG:Hid (z3L s=none):=by unfold z3L;rw [yB h10];rfl
  refine(zDa A s.length c w h10).mono ?_;rintro e w1 ⟨rfl,rfl⟩;rw [HG.out];exact⟨rfl,y7 _ _⟩
 .obtain⟨b,o,rfl,_,_⟩:=hA (by omega);clear hA hA0 hr;obtain⟨n,hn⟩:∃n,s.length=n+10:=⟨s.length-10,by omega⟩;have hbt:Bs (fun b=>b<w.heap.size) w (.slice (some ⟨b,o+n,none⟩) 2 (c-n)) ((s.drop n).take 2):=by
   have h:=Bs.cut HR.out (show n<=s.length by omega);rw [yA (by omega),<-yI]at h;exact Bs.pre h (by rw [yI];omega)
  have hb8:Bs (fun b=>b<w.heap.size) w (.slice (some ⟨b,o+(n+2),none⟩) 8 (c-(n+2))) (s.drop (n+2)):=by
   have h:=Bs.cut HR.out (show n+2<=s.length by omega);rw [yA (by omega),show s.length-(n+2)=8 by omega]at h;exact h
  have cv:=z1J (P:=prog) hbt tB tU tS;have HB8:=zz hb8;have l8:(s.drop (n+2)).length=8:=by rw [yI];omega
  have L8:=zz l8;have HS:=zz hn;have l1:(⟨#[0,1]⟩:ByteArray)=st [0,1]:=rfl;have g1:n+10<=c:=by omega
  have g2:n+10<=1099511627776:=by omega
  rw [hn];by_cases h01:(s.drop n).take 2= [0,1]
  .have HG:Hid (z3L s=match z2G (s.take n)with|some k=>if k.length<=64 then some (k,deB ((s.drop (n+2)).take 8))else none|none=>none):=by
    unfold z3L;rw [yA h10,hn,YS,yB h01,ya (l:=s.drop (n+2)) (by omega),show n+10-8=n+2 by omega];rfl
   have hd8:deB ((s.drop (n+2)).take 8)<U64:=by
    have:=z4o (s.drop (n+2)) 8;unfold U64;exact yE this (by decide)
   have HT:=zz (zGV _ hd8);have hbn:Bs (fun b=>b<w.heap.size) w (.slice (some ⟨b,o,none⟩) n n) (s.take n):=by
    obtain⟨_,c',hv,h3,h4,h5,h6⟩:=(Bs.pre HR.out (show n<=s.length by omega)).at;injection hv with hA _ _
    subst hA;have hln:(s.take n).length=n:=by rw [yC];omega
    have:=Bs.mk_ (S:=fun b=>b<w.heap.size) (w:=w) (l:=s.take n) (A:=some ⟨b,o,none⟩) (c:=n) (by omega) (by simp only [maxLen];omega) (fun h=>by cases h) h6
    rwa [hln]at this
   have HBN:=zz hbn;rw [h01]at cv;clear h01 hbt hb8 l8 h10 hlc hl hbn hd8;generalize hdv:deB ((s.drop (n+2)).take 8)=d8 at*;have HDV:=zz hdv;clear hdv;have g3:n+10-(n+2)=8:=by omega
   clear hn;go_enter func90,ntmps90
   go_wp2_with fail
   refine(zF7 _ _ (s.drop (n+2)) 8 w (by omega) (by omega) (by rw [L8.out];omega) (by rw [L8.out];omega) HB8.out).mono ?_;rintro e w2 ⟨A2,k2,c2,rfl,_,hbl2⟩;rw [HDV.out];have hs2:=hbl2.size;have HR2:Hid (Bs (fun b=>b<w.heap.size) w2 (.slice (some ⟨b,o,none⟩) n n) (s.take n)):=Sl.below HBN.out hbl2 (fun _ h=>h);clear cv;go_wp2_with fail
   go_loopw [9,10] (fun kv rv_ wr=>∃ (A:Option Addr) (k c:Nat) (A':Option Addr) (m:Nat) (key r:List UInt8),kv= .slice A k c/\rv_= .slice A' m m/\r.length=m/\key.length+m<=n/\Ob 5 wr w.heap.size (.slice A k c) key/\Bs (fun b=>b<w.heap.size) wr (.slice A' m m) r/\Hid (z2G (s.take n)=(z2G r).map (key++ ·))/\Below w.heap.size w wr) (fun _ rv_ _=>(match rv_ with| .slice _ m _=>m|_=>0))
   case atStart=>exact⟨none,0,0,some ⟨b,o,none⟩,n,[],s.take n,rfl,rfl,by rw [yC,HS.out];omega,by simp,Ob.nil _ _ _,HR2.out,by simp [Hid],hbl2⟩
   case round=>
    obtain⟨A,k,c1,A',m,key,r,rfl,rfl,hm,hkm,hown,hbr,HU,hbl⟩:=hrel;have hsz:=hbl.size;obtain rfl:=hown.len;cases r with
    |nil=>
     obtain rfl:m=0:=by simpa using hm.symm
     have HF:Hid (z3L s=if key.length<=64 then some (key,d8)else none):=by
      rw [Hid,HG.out,HU.out,z7f];simp
     clear hm hbr HU HG;by_cases h64:key.length<=64
     .have t1:¬ (64:Int)<(key.length:Int):=by omega
      have cvk:=z1J (P:=prog) hown.bs tB tU tS;go_wp2_with fail
      go_ret3
      rw [HF.out,yB h64,HT.out];exact⟨rfl,hbl⟩
     .have t1:(64:Int)<(key.length:Int):=by omega
      go_wp2_with fail
      go_ret3
      rw [HF.out,yA h64];exact⟨rfl,hbl⟩
    |cons x r=>
     subst hm;obtain⟨_,_,hv,_,_,_,hA⟩:=hbr.at;obtain⟨b',o',hA',hb',hcell⟩:=hA (by simp);injection hv with e1 _ e2
     subst e1 e2 hA';have hc0:=hcell 0 (by simp);have hcw:w.cell? ⟨b',o',none⟩=some (.int .u8 (x.toNat:Int)):=by
      have:=hbl.cell (p:=⟨b',o',none⟩) hb';rw [<-this];exact hc0
     have hcut1:=zz (Bs.cut hbr (k:=1) (by simp));have hx256:=x.toNat_lt;have hkl:key.length<=n:=by omega
     clear hA hc0;by_cases hx0:x.toNat=0
     .have hxz:x=0:=Yt.1 hx0;have z0:((x.toNat:Int) != 0)=false:=by rw [hx0];rfl
      have hcr:wr.cell? ⟨b',o',none⟩=some (.int .u8 (x.toNat:Int)):=(hbl.cell (p:=⟨b',o',none⟩) hb').trans hcw;have HOw:=zz hown;cases r with
      |nil=>
       have HGn:Hid (z3L s=none):=by rw [Hid,HG.out,HU.out,hxz,zBr];rfl
       clear HU hcell hbr hx0 hxz hown HG hcut1;go_wp2_with (at_builtin;(refine z02 _ rfl (.tmp 41) (.tmp 45) z0p rfl (HOw.out.alloc _) (Bs.oneB wr _ x rfl) rfl rfl (by simp;omega) (by simp;omega) ?_);intro A3 k3 c3 w3 hown3 hg3 hat3;have hbl3:=z01 (hbl.alloc hsz _) (HOw.out.alloc _) hg3 (by simp;omega);have hc3:=(hbl3.cell (p:=⟨b',o',none⟩) hb').trans hcw;clear hcr)
       go_ret3
       rw [HGn.out];exact⟨rfl,hbl3⟩
      |cons y r=>
       have hcw1:w.cell? ⟨b',o'+1,none⟩=some (.int .u8 (y.toNat:Int)):=(hbl.cell (p:=⟨b',o'+1,none⟩) hb').symm.trans (hcell 1 (by simp));have hcut2:=zz (Bs.cut hbr (k:=2) (by simp));have hy256:=y.toNat_lt;by_cases hy:y.toNat=255
       .have hyz:y=255:=Yt.1 hy;have z1:((y.toNat:Int)==255)=true:=by rw [hy];rfl
        have HU2:Hid (z2G (s.take n)=(z2G r).map ((key++ [x])++ ·)):=by
         rw [Hid,HU.out,hxz,hyz,z5n,yB rfl];cases z2G r<;>simp
        clear HU hcell hbr hx0 hxz hown hcut1 hy hyz;go_wp2_with (at_builtin;(refine z02 _ rfl (.tmp 41) (.tmp 45) z0p rfl (HOw.out.alloc _) (Bs.oneB wr _ x rfl) rfl rfl (by simp;omega) (by simp;omega) ?_);intro A3 k3 c3 w3 hown3 hg3 hat3;have hbl3:=z01 (hbl.alloc hsz _) (HOw.out.alloc _) hg3 (by simp;omega);have hc3:=(hbl3.cell (p:=⟨b',o',none⟩) hb').trans hcw;have hc4:=(hbl3.cell (p:=⟨b',o'+1,none⟩) hb').trans hcw1;clear hcr)
        go_roundw
        case rel=>
         have hbr3:Bs (fun b=>b<w.heap.size) w3 (.slice (if r= []then some ⟨b',o',none⟩else some ⟨b',o'+2,none⟩) r.length r.length) r:=by
          have h:=Sl.keep hcut2.out (w':=w3) (fun b o hb=>(hbl3.cell (p:=⟨b,o,none⟩) hb).trans (hbl.cell (p:=⟨b,o,none⟩) hb).symm);unfold Bs;simpa using h
         exact⟨A3,k3,c3,_,_,key++ [x],r,rfl,rfl,rfl,by simp at hkm ⊢;omega,hown3,hbr3,HU2,hbl3⟩
        case measure=>simp;omega
       .have z1:((y.toNat:Int)==255)=false:=by rw [yV];omega
        have HGn:Hid (z3L s=none):=by rw [Hid,HG.out,HU.out,hxz,z5n,yA (fun h=>hy (by rw [h];rfl))];rfl
        clear HU hcell hbr hx0 hxz hown HG hcut1 hcut2 hy;go_wp2_with (at_builtin;(refine z02 _ rfl (.tmp 41) (.tmp 45) z0p rfl (HOw.out.alloc _) (Bs.oneB wr _ x rfl) rfl rfl (by simp;omega) (by simp;omega) ?_);intro A3 k3 c3 w3 hown3 hg3 hat3;have hbl3:=z01 (hbl.alloc hsz _) (HOw.out.alloc _) hg3 (by simp;omega);have hc3:=(hbl3.cell (p:=⟨b',o',none⟩) hb').trans hcw;have hc4:=(hbl3.cell (p:=⟨b',o'+1,none⟩) hb').trans hcw1;clear hcr)
        go_ret3
        rw [HGn.out];exact⟨rfl,hbl3⟩
     .have z0:((x.toNat:Int) != 0)=true:=by rw [Yn];omega
      have HU2:Hid (z2G (s.take n)=(z2G r).map ((key++ [x])++ ·)):=by
       rw [Hid,HU.out,z8l (fun h=>hx0 (by rw [h];rfl))];cases z2G r<;>simp
      have hcr:wr.cell? ⟨b',o',none⟩=some (.int .u8 (x.toNat:Int)):=(hbl.cell (p:=⟨b',o',none⟩) hb').trans hcw;clear HU hcell hbr hx0;have HOw:=zz hown;clear hown;go_wp2_with (at_builtin;(refine z02 _ rfl (.tmp 41) (.tmp 45) z0p rfl (HOw.out.alloc _) (Bs.oneB wr _ x rfl) rfl rfl (by simp;omega) (by simp;omega) ?_);intro A3 k3 c3 w3 hown3 hg3 hat3;have hbl3:=z01 (hbl.alloc hsz _) (HOw.out.alloc _) hg3 (by simp;omega);have hc3:=(hbl3.cell (p:=⟨b',o',none⟩) hb').trans hcw;clear hcr)
      go_roundw
      case rel=>
       have hbr3:Bs (fun b=>b<w.heap.size) w3 (.slice (if r= []then some ⟨b',o',none⟩else some ⟨b',o'+1,none⟩) r.length r.length) r:=by
        have h:=Sl.keep hcut1.out (w':=w3) (fun b o hb=>(hbl3.cell (p:=⟨b,o,none⟩) hb).trans (hbl.cell (p:=⟨b,o,none⟩) hb).symm);unfold Bs;simpa using h
       exact⟨A3,k3,c3,_,_,key++ [x],r,rfl,rfl,rfl,by simp at hkm ⊢;omega,hown3,hbr3,HU2,hbl3⟩
      case measure=>simp
  .have HG:Hid (z3L s=none):=by unfold z3L;rw [yA h10,hn,YS,yA h01];rfl
   have tt:((s.drop n).take 2== [0,1])=false:=by rw [yV];exact h01
   clear h01 hbt hb8 l8 hn h10 hlc hl;go_enter func90,ntmps90
   go_wp2_with fail
   go_ret3
   rw [HG.out];exact⟨rfl,y7 _ _⟩
end
section
open Go Tryz
theorem z45{α β:Type}{f:α->β}:∀ (l:List α),(∀x∈l,∀y∈l,f x=f y->x=y)->l.Nodup->(l.map f).Nodup
 | [],_,_=>by simp
 |x::xs,h,hd=>by
  rw [yy,YA];rw [YA]at hd;refine⟨fun hm=> ?_,z45 xs (fun y hy z hz=>h y (ym _ hy) z (ym _ hz)) hd.2⟩;obtain⟨y,hy,e⟩:=yP.1 hm;have:=h y (ym _ hy) x (YJ ..) e;subst this;exact hd.1 hy
theorem FinK.room{f:SF}{n:Nat}(h:FinK f n){lo x:Int}{M:Nat}(hk:∀y,(f y).isSome=true->lo<=y/\y<lo+M)(hx:f x=none)(h1:lo<=x)(h2:x<lo+M):n<M:=by
 obtain⟨ls,hf,_⟩:=h;have hnot:x∉ls.map (·.1):=fun hm=>by
  have:=(hf.has x).2 hm;rw [hx]at this;cases this
 have hin:∀y∈x::ls.map (·.1),lo<=y/\y<lo+M:=fun y hy=>by
  rcases y9.1 hy with rfl|hy
  .exact⟨h1,h2⟩
  .exact hk y ((hf.has y).2 hy)
 have h3:=z3N M ((x::ls.map (·.1)).map fun y=>(y-lo).toNat) (z45 _ (fun y hy z hz e=>by
  have:=hin y hy;have:=hin z hz;omega) (YA.2 ⟨hnot,hf.nodup⟩)) (fun y hy=>by
  obtain⟨z,hz,rfl⟩:=yP.1 hy;have:=hin z hz;omega)
 rw [yw,y8,yw,hf.len]at h3;omega
theorem zIV{D:Dsk}(hD:D.Ok){lo x:Int}{M:Nat}{b:List UInt8}(hk:∀y,(D.view y).isSome=true->lo<=y/\y<lo+M)(h0:0<=lo)(hs:lo+M<=D.size)(hl:(M:Int)<=D.limit)(h1:lo<=x)(h2:x<lo+M)(hb:b.length<=512):D.why x b=0:=by
 unfold Dsk.why;rw [yA (by omega),yA (by omega),yA];rintro⟨h3,h4⟩;have:=hD.view.room hk (by simpa using h3) h1 h2;omega
end
end Go.Proofs.YthnlcbamjehpdaaGreatDoor
