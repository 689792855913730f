/- Part 7. -/
import Derived.Test.YthnlcbamjehpdaaGreatDoorViewCollectsJ5
import Derived.Test.YthnlcbamjehpdaaGreatDoorViewCollectsJ6
import Derived.Deep.MidRow
import Derived.Lib.SlKeysI
namespace Go.Proofs.YthnlcbamjehpdaaGreatDoor
set_option linter.unusedVariables false
set_option maxHeartbeats 16000000
set_option maxRecDepth 100000
section
open Go Go.RowKit Tryz
def intOf:Value->Int| .int _ q=>q|_=>0
theorem tbTy:Tryz.prog.underlying 196=some (.map 3 253):=underlying196
theorem wrTy:Tryz.prog.underlying 141=some (.map 3 78):=underlying141
theorem zIo:Tryz.prog.underlying 197=some (.map 3 3):=underlying197
theorem zJ7(w:World):(zeroValue 253).run prog w= .ok (.agg #[.int .i64 0,.int .i64 0]) w:=by kernel_rfl
theorem zJ6(w:World):(zeroValue 3).run prog w= .ok (.int .i64 0) w:=by kernel_rfl
theorem MpV.ids{P:Program}{k:TypeId}{w:World}{b n:Nat}{f:Int->Option Value}{α:Type}{g:Int->Option α}(hk:P.underlying k=some (.int .i64))(h:MpV P k w b f n)(hfg:∀x,InI x->(f x).isSome=(g x).isSome)(h90:zEH g):
 n=(z3c g).length/\∃D,w.ownsMap P k z6z b n D/\((z3c g).map fun i:Nat=>(i:Int)).Perm (intKeys D)/\Maps.size D=n:=by
 obtain⟨D,h1,h2,h3⟩:=h;have hperm:((z3c g).map fun i:Nat=>(i:Int)).Perm (intKeys D):=by
  obtain⟨es,hD,hpw,_⟩:=h1.entries (ZA hk);obtain⟨es',hD',hko⟩:=h1.keysOf;obtain rfl:es=es':=by rw [hD]at hD';simpa using hD'
  have hwf:=intKeys_wf h1 hk;subst hD;have hkk:∀p∈es,∃x,p.1= .int .i64 x:=fun p hp=>by obtain⟨v,hv⟩:=hko p hp;obtain⟨x,_,hx,_⟩:=Maps.keyOf_i64 hk hv;exact⟨x,hx⟩
  refine perm_intKeys hpw hkk (List.Pairwise.imp (fun h=>by omega) (Zk.2 ((ids_lt g).imp fun(h:_<_)=>(by omega:((_:Nat):Int)<((_:Nat):Int))))) fun x=> ?_
  by_cases hx:InI x
  .rw [(h3 x hx).1,hfg x hx,yP];constructor
   .rintro⟨i,hi,rfl⟩;exact(zBO.1 hi).2
   .intro hs;have:=h90 x hs;exact⟨x.toNat,zBO.2 ⟨by omega,by rw [show((x.toNat:Nat):Int)=x by omega];exact hs⟩,by omega⟩
  .constructor
   .intro hm;obtain⟨i,hi,rfl⟩:=yP.1 hm;have:=(zBO.1 hi).1;exact absurd (by unfold InI;omega) hx
   .intro hs;rw [Maps.has_eq,Z6]at hs;obtain⟨p,hp,hs⟩:=hs;have h6:=WideAt.sameKey_eq hs;refine absurd (InI.of (hwf x (yP.2 ⟨p,hp,?_⟩))) hx;rw [h6];rfl
 refine⟨?_,D,h1,hperm,h2⟩;have h4:=hperm.length_eq;rw [yw]at h4;rw [h4,<-h2];obtain⟨es,rfl⟩:=h1.isMap;simp [intKeys,Maps.size]
def plV(x:Nat×Nat):Value:= .agg #[.int .i64 (x.1:Int),.int .i64 (x.2:Int)]
def tbV(t:TF):Int->Option Value:=fun a=>(t a).map plV
def gnV(g:Int->Bool):Int->Option Value:=fun a=>if g a then some (.int .i64 a)else none
structure Tbl(w:World)(b:Nat)(t:TF):Prop where
 in90:zEH t
 mp:MpV prog 3 w b (tbV t) (z3c t).length
structure Wrt(w:World)(b:Nat)(f:SF):Prop where
 in90:zEH f
 mp:Secs w b f (z3c f).length
structure Gon(w:World)(b:Nat)(g:Int->Bool):Prop where
 in90:zEH (gnV g)
 mp:MpV prog 3 w b (gnV g) (z3c (gnV g)).length
theorem zIE(t:TF)(x:Int):(tbV t x).isSome=(t x).isSome:=by unfold tbV;cases t x<;>rfl
theorem zGE(t:TF)(x:Int):(tbV t x).getD (.agg #[.int .i64 0,.int .i64 0])=plV ((t x).getD (0,0)):=by unfold tbV;cases t x<;>rfl
theorem z5E(g:Int->Bool)(x:Int):(gnV g x).isSome=g x:=by unfold gnV;cases g x<;>rfl
theorem z9C{α:Type}:(z3c (fun _=>(none:Option α))).length=0:=by
 have:z3c (fun _=>(none:Option α))= []:=by unfold z3c;simp
 rw [this];rfl
section
variable {w w':World} {b:Nat} {t:TF} {f:SF} {g:Int->Bool}
theorem Tbl.made(w:World):Tbl (w.alloc (.map #[] 0)) w.heap.size (fun _=>none):=⟨fun x h=>(by cases h),by rw [z9C];exact MpV.made _ _ w⟩
theorem Wrt.made(w:World):Wrt (w.alloc (.map #[] 0)) w.heap.size (fun _=>none):=⟨fun x h=>(by cases h),by rw [z9C];exact Secs.made w⟩
theorem gnV_no:gnV (fun _=>false)=fun _=>none:=by funext a;rfl
theorem Gon.made(w:World):Gon (w.alloc (.map #[] 0)) w.heap.size (fun _=>false):=by
 refine⟨?_,?_⟩<;>rw [gnV_no]
 .exact fun x h=>(by cases h)
 .rw [z9C];exact MpV.made _ _ w
theorem Tbl.at(h:Tbl w b t)(hb:w'.heap[b]? =w.heap[b]?):Tbl w' b t:=⟨h.in90,h.mp.at hb⟩
theorem Gon.at(h:Gon w b g)(hb:w'.heap[b]? =w.heap[b]?):Gon w' b g:=⟨h.in90,h.mp.at hb⟩
theorem Tbl.later(h:Tbl w b t)(hb:Below w.heap.size w w'):Tbl w' b t:=⟨h.in90,h.mp.later hb⟩
theorem Wrt.later(h:Wrt w b f)(hb:Below w.heap.size w w'):Wrt w' b f:=⟨h.in90,h.mp.later hb⟩
theorem Gon.later(h:Gon w b g)(hb:Below w.heap.size w w'):Gon w' b g:=⟨h.in90,h.mp.later hb⟩
theorem Tbl.lt(h:Tbl w b t):b<w.heap.size:=h.mp.lt
theorem Wrt.lt(h:Wrt w b f):b<w.heap.size:=h.mp.lt
theorem Gon.lt(h:Gon w b g):b<w.heap.size:=h.mp.lt
theorem Tbl.kind(h:Tbl w b t):z0G w b=some none:=z2S h.mp
theorem Wrt.kind(h:Wrt w b f):z0G w b=some none:=h.mp.kind
theorem Gon.kind(h:Gon w b g):z0G w b=some none:=z2S h.mp
theorem ids90{α:Type}(f:Int->Option α):(z3c f).length<maxLen:=by have:=ids_le f;unfold maxLen;omega
theorem zFC{x:Int}(h0:0<=x)(h1:x<90):InI x:=by unfold InI;omega
theorem Gon.put(h:Gon w b g){a:Int}(h0:0<=a)(h1:a<90):
 ∃w',(Instr.mapUpdate 197 (.map (some b)) (.int .i64 a) (.int .i64 a)).run prog w= .ok () w'/\Gon w' b (z2u g a true)/\w.mapTurned w' b:=by
 obtain⟨w',h3,h4,h5⟩:=h.mp.put z1d zIo (ids90 _) (zFC h0 h1) (.int .i64 a);have e:(fun y=>if y=a then some (Value.int .i64 a)else gnV g y)=gnV (z2u g a true):=by
  funext y
  unfold gnV z2u;by_cases hy:y=a
  .simp only [hy,YN]
  .simp only [hy,yv]
 have h90:zEH (gnV (z2u g a true)):=fun y hy=>by
  rw [z5E]at hy;unfold z2u at hy
  split at hy
  .omega
  .exact h.in90 y (by rw [z5E];exact hy)
 rw [e]at h4;have h6:=(h4.ids z1d (g:=gnV (z2u g a true)) (fun y _=>rfl) h90).1;rw [h6]at h4;exact⟨w',h3,⟨h90,h4⟩,h5⟩
theorem Gon.del(h:Gon w b g){a:Int}(ha:InI a)(ty:TypeId):
 ∃w',(Builtin.delete_ #[197,3] ty #[.map (some b),.int .i64 a]).run prog w= .ok (.tuple #[]) w'/\Gon w' b (z2u g a false)/\w.mapTurned w' b:=by
 obtain⟨w',h3,h4,h5⟩:=h.mp.del z1d zIo ha ty;have e:(fun y=>if y=a then none else gnV g y)=gnV (z2u g a false):=by
  funext y
  unfold gnV z2u;by_cases hy:y=a
  .simp only [hy,YN];rfl
  .simp only [hy,yv]
 have h90:zEH (gnV (z2u g a false)):=fun y hy=>by
  rw [z5E]at hy;unfold z2u at hy
  split at hy
  .cases hy
  .exact h.in90 y (by rw [z5E];exact hy)
 rw [e]at h4;have h6:=(h4.ids z1d (g:=gnV (z2u g a false)) (fun y _=>rfl) h90).1;rw [h6]at h4;exact⟨w',h3,⟨h90,h4⟩,h5⟩
theorem Wrt.put(h:Wrt w b f){a:Int}(h0:0<=a)(h1:a<90){A:Option Addr}{c:Nat}{l:List UInt8}(hv:Ub w 0 (.slice A l.length c) l):
 ∃w',(Instr.mapUpdate 141 (.map (some b)) (.int .i64 a) (.slice A l.length c)).run prog w= .ok () w'/\Wrt w' b (f.put a l)/\w.mapTurned w' b:=by
 have hkind:=h.kind;obtain⟨m,hm,hr⟩:=h.mp;obtain⟨w',h3,h4,h5⟩:=hm.put z1d wrTy (ids90 _) (zFC h0 h1) (.slice A l.length c);have h6:=Secs.put hr h4 h5 hv (zFC h0 h1) hkind;have h90:zEH (f.put a l):=fun y hy=>by
  unfold SF.put at hy
  split at hy
  .omega
  .exact h.in90 y hy
 have h7:f.nPut (z3c f).length a=(z3c (f.put a l)).length:=by
  obtain⟨m',hm',hr'⟩:=h6;exact(hm'.ids z1d (g:=f.put a l) (fun y hy=>(hr' y hy).some_iff) h90).1
 rw [h7]at h6;exact⟨w',h3,⟨h90,h6⟩,h5⟩
theorem Wrt.del(h:Wrt w b f){a:Int}(ha:InI a)(ty:TypeId):
 ∃w',(Builtin.delete_ #[141,3] ty #[.map (some b),.int .i64 a]).run prog w= .ok (.tuple #[]) w'/\Wrt w' b (f.del a)/\w.mapTurned w' b:=by
 have hkind:=h.kind;obtain⟨m,hm,hr⟩:=h.mp;obtain⟨w',h3,h4,h5⟩:=hm.del z1d wrTy ha ty;have h6:Secs w' b (f.del a) (nDel m (z3c f).length a):=by
  refine⟨_,h4,fun x hx=> ?_⟩;unfold SF.del;by_cases hxa:x=a
  .simp only [hxa,YN];trivial
  .simp only [hxa,yv];exact(hr x hx).keep fun _ _ h=>h.other (by rw [hkind];simp) h5.grown
 have h90:zEH (f.del a):=fun y hy=>by
  unfold SF.del at hy
  split at hy
  .cases hy
  .exact h.in90 y hy
 have h7:nDel m (z3c f).length a=(z3c (f.del a)).length:=by
  obtain⟨m',hm',hr'⟩:=h6;exact(hm'.ids z1d (g:=f.del a) (fun y hy=>(hr' y hy).some_iff) h90).1
 rw [h7]at h6;exact⟨w',h3,⟨h90,h6⟩,h5⟩
end
structure Pz where
 g:Nat
 gm:Nat
 bt:Nat
 bw:Nat
 bg:Nat
 h:Zn
def Pz.has(Z:Pz)(b:Nat):Prop:=b=Z.g∨b=Z.gm∨b=Z.bt∨b=Z.bw∨b=Z.bg∨Z.h.has b
def pgC(Z:Pz)(P:Pgr):Array Value:= #[.pointer (some ⟨Z.h.g,0,none⟩),.pointer (some ⟨Z.gm,0,none⟩),.int .i64 P.a,.int .i64 (P.n:Int),.int .u64 (P.tag:Int),.map (some Z.bt),.map (some Z.bw),.map (some Z.bg)]
structure Pg(w:World)(Z:Pz)(P:Pgr):Prop where
 dk:Dk w Z.h P.D
 mt:Mk w Z.gm Z.h P.a P.num P.last
 blk:Blk w Z.g 199 (pgC Z P)
 tb:Tbl w Z.bt P.tb
 wr:Wrt w Z.bw P.wr
 gn:Gon w Z.bg P.gn
 n1:Z.bt≠Z.bw
 n2:Z.bt≠Z.bg
 n3:Z.bw≠Z.bg
 m1:¬Z.h.has Z.bt
 m2:¬Z.h.has Z.bw
 m3:¬Z.h.has Z.bg
structure Ptp(Z:Pz)(w:World)(Z':Pz)(w':World):Prop where
 g:Z'.g=Z.g
 hg:Z'.h.g=Z.h.g
 turn:Turn Z.has w w'
 has:∀b,Z'.has b->Z.has b∨w.heap.size<=b
section
variable {w w' w1:World} {Z Z' Z1:Pz} {P:Pgr}
theorem Ptp.refl(Z:Pz)(w:World):Ptp Z w Z w:=⟨rfl,rfl,Turn.refl _ _,fun _ h=> .inl h⟩
theorem Ptp.below(hb:Below w.heap.size w w'):Ptp Z w Z w':=⟨rfl,rfl,Turn.of_below hb,fun _ h=> .inl h⟩
theorem Ptp.trans(a:Ptp Z w Z1 w1)(b:Ptp Z1 w1 Z' w'):Ptp Z w Z' w':=
 ⟨b.g.trans a.g,b.hg.trans a.hg,a.turn.trans b.turn a.has,fun x hx=>(b.has x hx).elim (a.has x) fun h=> .inr (yD a.turn.size h)⟩
theorem Pg.later(p:Pg w Z P)(hb:Below w.heap.size w w'):Pg w' Z P:=
 ⟨p.dk.later hb,p.mt.later hb,p.blk.later hb,p.tb.later hb,p.wr.later hb,p.gn.later hb,p.n1,p.n2,p.n3,p.m1,p.m2,p.m3⟩
theorem Pg.lt(p:Pg w Z P){b:Nat}(hb:Z.has b):b<w.heap.size:=by
 rcases hb with rfl|rfl|rfl|rfl|rfl|h
 .exact p.blk.lt
 .exact p.mt.blk.lt
 .exact p.tb.lt
 .exact p.wr.lt
 .exact p.gn.lt
 .exact p.dk.lt h
theorem Pg.kinds(p:Pg w Z P){b:Nat}(hb:Z.has b):z0G w b=some (some 199)∨z0G w b=some (some 246)∨z0G w b=some (some 145)∨z0G w b=some none∨z0G w b=some (some 288):=by
 rcases hb with rfl|rfl|rfl|rfl|rfl|h
 .exact .inl (z0I p.blk)
 .exact .inr (.inl (z0I p.mt.blk))
 .exact .inr (.inr (.inr (.inl p.tb.kind)))
 .exact .inr (.inr (.inr (.inl p.wr.kind)))
 .exact .inr (.inr (.inr (.inl p.gn.kind)))
 .rcases p.dk.kinds h with h|h|h
  .exact .inr (.inr (.inl h))
  .exact .inr (.inr (.inr (.inl h)))
  .exact .inr (.inr (.inr (.inr h)))
end
end
section
open Go Go.RowKit Tryz
open Go.ChangeMaps Go.MapKept in
section
variable {w w':World} {b:Nat} {t:TF} {f:SF} {g:Int->Bool}
theorem Tbl.map(h:Tbl w b t){z:Nat}(hz:b≠z)(hg:w.mapTurned w' z):Tbl w' b t:=⟨h.in90,h.mp.other hz hg.grown⟩
theorem Gon.map(h:Gon w b g){z:Nat}(hz:b≠z)(hg:w.mapTurned w' z):Gon w' b g:=⟨h.in90,h.mp.other hz hg.grown⟩
theorem Wrt.map(h:Wrt w b f){z:Nat}(hz:b≠z)(hk:z0G w z=some none)(hg:w.mapTurned w' z):Wrt w' b f:=⟨h.in90,h.mp.other hz (by rw [hk];simp) hg.grown⟩
theorem Turn.of_map{F:Nat->Prop}{z:Nat}(h:w.mapTurned w' z)(hF:F z):Turn F w w':=Turn.of_grown h.grown fun y hy=>by injection hy with hy;rw [<-hy];exact hF
theorem Dk.map{h:Zn}{D:Dsk}(d:Dk w h D){z:Nat}(hz:¬h.has z)(hk:z0G w z=some none)(hg:w.mapTurned w' z):Dk w' h D:=by
 have hne:∀b,h.has b->b≠z:=fun b hb e=>hz (by rw [<-e];exact hb)
 have hub:∀v l,Ub w 0 v l->Ub w' 0 v l:=fun v l h=>h.other (by rw [hk];simp) hg.grown
 have hblk:∀ {g:Nat} {t:TypeId} {cs:Array Value},Blk w g t cs->Blk w' g t cs:=fun {g t cs} hb=>hb.grown hg.grown fun e=>by
  injection e with e
  subst e;have:=z0I hb;rw [hk]at this;cases this
 have hsec:∀ {b n:Nat} {f:SF},Secs w b f n->h.has b->Secs w' b f n:=fun {b n f} hs hb=>by
  obtain⟨m,hm,hr⟩:=hs;exact⟨m,hm.other (hne b hb) hg.grown,fun x hx=>(hr x hx).keep hub⟩
 obtain⟨vs,ho,hp⟩:=d.pend;refine⟨hblk d.blk,hsec d.view (.inr (.inl rfl)),hsec d.ground (.inr (.inr (.inl rfl))),d.ne,vs,ho.other (fun e=>hz (.inr (.inr (.inr e)))) hg.grown,hp.keep fun v p hv=> ?_⟩;cases p with
 |wr a b=>
  obtain⟨ga,A,c,h1,h3,h4,h5⟩:=hv;exact⟨ga,A,c,h1,hblk h3,hblk h4,hub _ _ h5⟩
 |fr a=>
  obtain⟨ga,h1,h3⟩:=hv;exact⟨ga,h1,hblk h3⟩
theorem Blk.map{g:Nat}{t:TypeId}{cs:Array Value}(h:Blk w g t cs){z:Nat}(hk:z0G w z=some none)(hg:w.mapTurned w' z):Blk w' g t cs:=h.grown hg.grown fun e=>by
 injection e with e
 subst e;have:=z0I h;rw [hk]at this;cases this
end
section
variable {w w':World} {Z:Pz} {P:Pgr}
theorem Pg.putW(p:Pg w Z P){f:SF}(h:Wrt w' Z.bw f)(hg:w.mapTurned w' Z.bw):Pg w' Z {P with wr:=f}/\Ptp Z w Z w':=
 ⟨⟨p.dk.map p.m2 p.wr.kind hg,⟨p.mt.blk.map p.wr.kind hg⟩,p.blk.map p.wr.kind hg,p.tb.map p.n1 hg,h,p.gn.map (Ne.symm p.n3) hg,p.n1,p.n2,p.n3,p.m1,p.m2,p.m3⟩,⟨rfl,rfl,Turn.of_map hg (.inr (.inr (.inr (.inl rfl)))),fun b hb=> .inl hb⟩⟩
theorem Pg.putG(p:Pg w Z P){f:Int->Bool}(h:Gon w' Z.bg f)(hg:w.mapTurned w' Z.bg):Pg w' Z {P with gn:=f}/\Ptp Z w Z w':=
 ⟨⟨p.dk.map p.m3 p.gn.kind hg,⟨p.mt.blk.map p.gn.kind hg⟩,p.blk.map p.gn.kind hg,p.tb.map p.n2 hg,p.wr.map p.n3 p.gn.kind hg,h,p.n1,p.n2,p.n3,p.m1,p.m2,p.m3⟩,⟨rfl,rfl,Turn.of_map hg (.inr (.inr (.inr (.inr (.inl rfl))))),fun b hb=> .inl hb⟩⟩
end
theorem z4R(Z:Pz)(P:Pgr)(x:Int)(w:World)(hp:Pg w Z P)(hx:InI x):
 Calls prog 140 #[.pointer (some ⟨Z.g,0,none⟩),.int .i64 x] w fun e w'=>e= .returned (.bool (P.has x))/\Below w.heap.size w w':=by
 obtain⟨m,hm,hr⟩:=hp.wr.mp;have l1:=hm.look z1d wrTy (z3f w) hx;rw [(hr x hx).some_iff]at l1;have l2:=hp.gn.mp.look z1d zIo (zJ6 w) hx;rw [z5E]at l2;have l3:=hp.tb.mp.look z1d tbTy (zJ7 w) hx;rw [zGE,zIE]at l3;unfold plV at l3;have d5:w.cell? ⟨Z.g,5,none⟩=some (.map (some Z.bt)):=hp.blk.cell 5;have d6:w.cell? ⟨Z.g,6,none⟩=some (.map (some Z.bw)):=hp.blk.cell 6;have d7:w.cell? ⟨Z.g,7,none⟩=some (.map (some Z.bg)):=hp.blk.cell 7;unfold Pgr.has;generalize (m x).getD (.slice none 0 0)=v1 at*;generalize (gnV P.gn x).getD (.int .i64 0)=v2 at*;generalize (P.tb x).getD (0,0)=pl at*;generalize (P.wr x).isSome=bw at*;generalize (P.tb x).isSome=bt at*;generalize P.gn x=bg at*;clear hm hr hp hx;have q:=(y7 w.heap.size w).alloc (y5 _) (.cells #[.int .i64 (pl.1:Int),.int .i64 (pl.2:Int)] 253);cases bw<;>cases bt<;>cases bg
 all_goals
  go_enter func140,ntmps140
  go_wp2_with fail
  go_ret
  exact⟨rfl,q⟩
theorem zHr(Z:Pz)(P:Pgr)(w:World)(hp:Pg w Z P):
 Calls prog 74 #[.pointer (some ⟨Z.g,0,none⟩)] w fun e w'=>e= .returned (.int .u64 (P.tag:Int))/\w=w':=by
 have d4:w.cell? ⟨Z.g,4,none⟩=some (.int .u64 (P.tag:Int)):=hp.blk.cell 4;clear hp;go_enter func74,ntmps74
 go_wp2_with fail
 go_ret
 exact⟨rfl,rfl⟩
theorem zBa(Z:Pz)(P:Pgr)(p:Nat)(w:World)(hp:Pg w Z P)(h0:0<=P.a)(h1:P.a<=65536)(h2:p<=65536):
 Calls prog 186 #[.pointer (some ⟨Z.g,0,none⟩),.int .i64 (p:Int)] w fun e w'=>e= .returned (.int .i64 (z7z P.a p))/\w=w':=by
 have d2:w.cell? ⟨Z.g,2,none⟩=some (.int .i64 P.a):=hp.blk.cell 2;clear hp;unfold z7z;go_enter func186,ntmps186
 go_wp2_with fail
 go_ret
 exact⟨by go_num,rfl⟩
def z6Z(Z:Pz)(P':Pgr)(w w':World):Prop:=Pg w' Z P'/\Ptp Z w Z w'
theorem z7G(Z:Pz)(P:Pgr)(x:Int)(w:World)(hp:Pg w Z P)(hx:InI x):
 Calls prog 177 #[.pointer (some ⟨Z.g,0,none⟩),.int .i64 x] w fun e w'=>e= .returned (.int .i64 (if P.has x then 0 else 131))/\z6Z Z (P.free x) w w':=by
 have HP:=zz hp;have HX:=zz hx;clear hp hx;by_cases hh:P.has x=true
 .have e2:P.free x={P with wr:=P.wr.del x,gn:=z2u P.gn x true}:=by unfold Pgr.free;rw [yB hh]
  rw [e2,yB hh];go_enter func177,ntmps177
  go_wp2_with fail
  refine(z4R Z P x w HP.out HX.out).mono ?_;rintro e w0 ⟨rfl,q0⟩;rw [hh];have hin:0<=x/\x<90:=by
   unfold Pgr.has at hh;rw [Z2,Y9]at hh;rcases hh with h|⟨h,_⟩
   .exact HP.out.wr.in90 x h
   .exact HP.out.tb.in90 x h
  have p0:=HP.out.later q0;have d6:w0.cell? ⟨Z.g,6,none⟩=some (.map (some Z.bw)):=p0.blk.cell 6;obtain⟨w1,r1,h1,t1⟩:=p0.wr.del HX.out 0;obtain⟨p1,s1⟩:=p0.putW h1 t1;have d7:w1.cell? ⟨Z.g,7,none⟩=some (.map (some Z.bg)):=p1.blk.cell 7;obtain⟨w2,r2,h2,t2⟩:=p1.gn.put hin.1 hin.2;obtain⟨p2,s2⟩:=p1.putG h2 t2;have HP2:=zz p2;have HS:=zz (((Ptp.below (Z:=Z) q0).trans s1).trans s2);clear h1 t1 p1 s1 h2 t2 p2 s2 q0 p0 hin hh e2;go_wp2_with fail
  go_ret
  exact⟨rfl,HP2.out,HS.out⟩
 .have hh:P.has x=false:=by simpa using hh
  have e2:P.free x=P:=by unfold Pgr.free;rw [hh];rfl
  rw [e2,hh];go_enter func177,ntmps177
  go_wp2_with fail
  refine(z4R Z P x w HP.out HX.out).mono ?_;rintro e w0 ⟨rfl,q0⟩;rw [hh];go_wp2_with fail
  go_ret
  exact⟨rfl,HP.out.later q0,Ptp.below q0⟩
end
end Go.Proofs.YthnlcbamjehpdaaGreatDoor
