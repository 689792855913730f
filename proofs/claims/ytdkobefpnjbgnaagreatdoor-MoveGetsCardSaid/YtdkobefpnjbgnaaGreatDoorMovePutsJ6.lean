/- Part 6. -/
import Derived.Test.YtdkobefpnjbgnaaGreatDoorMovePutsJ5
import Derived.Deep.MidRow
import Derived.Lib.SlKeysI
namespace Go.Proofs.YtdkobefpnjbgnaaGreatDoor
set_option linter.unusedVariables false
set_option maxHeartbeats 16000000
set_option maxRecDepth 100000
section
open Go Go.RowKit
def intOf:Value→Int| .int _ q=>q|_=>0
theorem tbTy:Tryz.prog.underlying 208=some (.map 3 256):=Tryz.underlying208
theorem wrTy:Tryz.prog.underlying 160=some (.map 3 25):=Tryz.underlying160
theorem zIc:Tryz.prog.underlying 209=some (.map 3 3):=Tryz.underlying209
theorem zI1(w:World):(zeroValue 256).run Tryz.prog w= .ok (.agg #[.int .i64 0,.int .i64 0]) w:=by kernel_rfl
theorem zI0(w:World):(zeroValue 3).run Tryz.prog w= .ok (.int .i64 0) w:=by kernel_rfl
theorem MpV.ids{P:Program}{k:TypeId}{w:World}{b n:Nat}{f:Int→Option Value}{α:Type}{g:Int→Option α}(hk:P.underlying k=some (.int .i64))(h:MpV P k w b f n)(hfg:∀x,InI x→(f x).isSome=(g x).isSome)(h90:zE1 g):
 n=(z44 g).length∧∃D,w.ownsMap P k z7A b n D∧((z44 g).map fun i:Nat=>(i:Int)).Perm (intKeys D)∧Maps.size D=n:=by
 obtain⟨D,h1,h2,h3⟩:=h;have hperm:((z44 g).map fun i:Nat=>(i:Int)).Perm (intKeys D):=by
  obtain⟨es,hD,hpw,_⟩:=h1.entries (Maps.int_keyed hk);obtain⟨es',hD',hko⟩:=h1.keysOf;obtain rfl:es=es':=by rw [hD]at hD';simpa using hD'
  have hwf:=intKeys_wf h1 hk;subst hD;have hkk:∀p∈es,∃x,p.1= .int .i64 x:=fun p hp=>by obtain⟨v,hv⟩:=hko p hp;obtain⟨x,_,hx,_⟩:=Maps.keyOf_i64 hk hv;exact⟨x,hx⟩
  refine perm_intKeys hpw hkk (List.Pairwise.imp (fun h=>by omega) (List.pairwise_map.2 ((ids_lt g).imp fun(h:_<_)=>(by omega:((_:Nat):Int)<((_:Nat):Int))))) fun x=> ?_
  by_cases hx:InI x
  ·rw [(h3 x hx).1,hfg x hx,List.mem_map];constructor
   ·rintro⟨i,hi,rfl⟩;exact(zBP.1 hi).2
   ·intro hs;have:=h90 x hs;exact⟨x.toNat,zBP.2 ⟨by omega,by rw [show((x.toNat:Nat):Int)=x by omega];exact hs⟩,by omega⟩
  ·constructor
   ·intro hm;obtain⟨i,hi,rfl⟩:=List.mem_map.1 hm;have:=(zBP.1 hi).1;exact absurd (by unfold InI;omega) hx
   ·intro hs;rw [Maps.has_eq,List.any_eq_true]at hs;obtain⟨p,hp,hs⟩:=hs;have h6:=WideAt.sameKey_eq hs;refine absurd (InI.of (hwf x (List.mem_map.2 ⟨p,hp,?_⟩))) hx;rw [h6];rfl
 refine⟨?_,D,h1,hperm,h2⟩;have h4:=hperm.length_eq;rw [List.length_map]at h4;rw [h4,←h2];obtain⟨es,rfl⟩:=h1.isMap;simp [intKeys,Maps.size]
def plV(x:Nat×Nat):Value:= .agg #[.int .i64 (x.1:Int),.int .i64 (x.2:Int)]
def tbV(t:TF):Int→Option Value:=fun a=>(t a).map plV
def gnV(g:Int→Bool):Int→Option Value:=fun a=>if g a then some (.int .i64 a)else none
structure Tbl(w:World)(b:Nat)(t:TF):Prop where
 in90:zE1 t
 mp:MpV Tryz.prog 3 w b (tbV t) (z44 t).length
structure Wrt(w:World)(b:Nat)(f:SF):Prop where
 in90:zE1 f
 mp:Secs w b f (z44 f).length
structure Gon(w:World)(b:Nat)(g:Int→Bool):Prop where
 in90:zE1 (gnV g)
 mp:MpV Tryz.prog 3 w b (gnV g) (z44 (gnV g)).length
theorem zCP(t:TF)(x:Int):(tbV t x).isSome=(t x).isSome:=by unfold tbV;cases t x<;>rfl
theorem zE6(t:TF)(x:Int):(tbV t x).getD (.agg #[.int .i64 0,.int .i64 0])=plV ((t x).getD (0,0)):=by unfold tbV;cases t x<;>rfl
theorem z8I(g:Int→Bool)(x:Int):(gnV g x).isSome=g x:=by unfold gnV;cases g x<;>rfl
theorem z8F{α:Type}:(z44 (fun _=>(none:Option α))).length=0:=by
 have:z44 (fun _=>(none:Option α))= []:=by unfold z44;simp
 rw [this];rfl
section
variable {w w':World} {b:Nat} {t:TF} {f:SF} {g:Int→Bool}
theorem Tbl.made(w:World):Tbl (w.alloc (.map #[] 0)) w.heap.size (fun _=>none):=⟨fun x h=>(by cases h),by rw [z8F];exact MpV.made _ _ w⟩
theorem Wrt.made(w:World):Wrt (w.alloc (.map #[] 0)) w.heap.size (fun _=>none):=⟨fun x h=>(by cases h),by rw [z8F];exact Secs.made w⟩
theorem gnV_no:gnV (fun _=>false)=fun _=>none:=by funext a;rfl
theorem Gon.made(w:World):Gon (w.alloc (.map #[] 0)) w.heap.size (fun _=>false):=by
 refine⟨?_,?_⟩<;>rw [gnV_no]
 ·exact fun x h=>(by cases h)
 ·rw [z8F];exact MpV.made _ _ w
theorem Tbl.at(h:Tbl w b t)(hb:w'.heap[b]? =w.heap[b]?):Tbl w' b t:=⟨h.in90,h.mp.at hb⟩
theorem Gon.at(h:Gon w b g)(hb:w'.heap[b]? =w.heap[b]?):Gon w' b g:=⟨h.in90,h.mp.at hb⟩
theorem Tbl.later(h:Tbl w b t)(hb:Below w.heap.size w w'):Tbl w' b t:=⟨h.in90,h.mp.later hb⟩
theorem Wrt.later(h:Wrt w b f)(hb:Below w.heap.size w w'):Wrt w' b f:=⟨h.in90,h.mp.later hb⟩
theorem Gon.later(h:Gon w b g)(hb:Below w.heap.size w w'):Gon w' b g:=⟨h.in90,h.mp.later hb⟩
theorem Tbl.lt(h:Tbl w b t):b<w.heap.size:=h.mp.lt
theorem Wrt.lt(h:Wrt w b f):b<w.heap.size:=h.mp.lt
theorem Gon.lt(h:Gon w b g):b<w.heap.size:=h.mp.lt
theorem Tbl.kind(h:Tbl w b t):z0E w b=some none:=z23 h.mp
theorem Wrt.kind(h:Wrt w b f):z0E w b=some none:=h.mp.kind
theorem Gon.kind(h:Gon w b g):z0E w b=some none:=z23 h.mp
theorem ids90{α:Type}(f:Int→Option α):(z44 f).length<maxLen:=by have:=ids_le f;unfold maxLen;omega
theorem zEQ{x:Int}(h0:0≤x)(h1:x<90):InI x:=by unfold InI;omega
theorem Tbl.put(h:Tbl w b t){a:Int}(h0:0≤a)(h1:a<90)(x:Nat×Nat):
 ∃w',(Instr.mapUpdate 208 (.map (some b)) (.int .i64 a) (.agg #[.int .i64 (x.1:Int),.int .i64 (x.2:Int)])).run Tryz.prog w= .ok () w'∧Tbl w' b (t.put a x)∧w.mapTurned w' b:=by
 obtain⟨w',h3,h4,h5⟩:=h.mp.put z1J tbTy (ids90 _) (zEQ h0 h1) (.agg #[.int .i64 (x.1:Int),.int .i64 (x.2:Int)]);have e:(fun y=>if y=a then some (Value.agg #[.int .i64 (x.1:Int),.int .i64 (x.2:Int)])else tbV t y)=tbV (t.put a x):=by
  funext y
  unfold tbV TF.put;by_cases hy:y=a
  ·simp only [hy,if_true];rfl
  ·simp only [hy,if_false]
 have h90:zE1 (t.put a x):=fun y hy=>by
  unfold TF.put at hy
  split at hy
  ·omega
  ·exact h.in90 y hy
 rw [e]at h4;have h6:=(h4.ids z1J (g:=t.put a x) (fun y _=>zCP _ y) h90).1;rw [h6]at h4;exact⟨w',h3,⟨h90,h4⟩,h5⟩
theorem Gon.del(h:Gon w b g){a:Int}(ha:InI a)(ty:TypeId):
 ∃w',(Builtin.delete_ #[209,3] ty #[.map (some b),.int .i64 a]).run Tryz.prog w= .ok (.tuple #[]) w'∧Gon w' b (z5U g a false)∧w.mapTurned w' b:=by
 obtain⟨w',h3,h4,h5⟩:=h.mp.del z1J zIc ha ty;have e:(fun y=>if y=a then none else gnV g y)=gnV (z5U g a false):=by
  funext y
  unfold gnV z5U;by_cases hy:y=a
  ·simp only [hy,if_true];rfl
  ·simp only [hy,if_false]
 have h90:zE1 (gnV (z5U g a false)):=fun y hy=>by
  rw [z8I]at hy;unfold z5U at hy
  split at hy
  ·cases hy
  ·exact h.in90 y (by rw [z8I];exact hy)
 rw [e]at h4;have h6:=(h4.ids z1J (g:=gnV (z5U g a false)) (fun y _=>rfl) h90).1;rw [h6]at h4;exact⟨w',h3,⟨h90,h4⟩,h5⟩
theorem Wrt.put(h:Wrt w b f){a:Int}(h0:0≤a)(h1:a<90){A:Option Addr}{c:Nat}{l:List UInt8}(hv:Ub w 0 (.slice A l.length c) l):
 ∃w',(Instr.mapUpdate 160 (.map (some b)) (.int .i64 a) (.slice A l.length c)).run Tryz.prog w= .ok () w'∧Wrt w' b (f.put a l)∧w.mapTurned w' b:=by
 have hkind:=h.kind;obtain⟨m,hm,hr⟩:=h.mp;obtain⟨w',h3,h4,h5⟩:=hm.put z1J wrTy (ids90 _) (zEQ h0 h1) (.slice A l.length c);have h6:=Secs.put hr h4 h5 hv (zEQ h0 h1) hkind;have h90:zE1 (f.put a l):=fun y hy=>by
  unfold SF.put at hy
  split at hy
  ·omega
  ·exact h.in90 y hy
 have h7:f.nPut (z44 f).length a=(z44 (f.put a l)).length:=by
  obtain⟨m',hm',hr'⟩:=h6;exact(hm'.ids z1J (g:=f.put a l) (fun y hy=>(hr' y hy).some_iff) h90).1
 rw [h7]at h6;exact⟨w',h3,⟨h90,h6⟩,h5⟩
end
structure Pz where
 g:Nat
 gm:Nat
 bt:Nat
 bw:Nat
 bg:Nat
 h:Zn
def Pz.has(Z:Pz)(b:Nat):Prop:=b=Z.g∨b=Z.gm∨b=Z.bt∨b=Z.bw∨b=Z.bg∨Z.h.has b
def pgC(Z:Pz)(P:Pgr):Array Value:= #[.pointer (some ⟨Z.h.g,0,none⟩),.pointer (some ⟨Z.gm,0,none⟩),.int .i64 P.a,.int .i64 (P.n:Int),.int .u64 (P.tag:Int),.map (some Z.bt),.map (some Z.bw),.map (some Z.bg)]
structure Pg(w:World)(Z:Pz)(P:Pgr):Prop where
 dk:Dk w Z.h P.D
 mt:Mk w Z.gm Z.h P.a P.num P.last
 blk:Blk w Z.g 211 (pgC Z P)
 tb:Tbl w Z.bt P.tb
 wr:Wrt w Z.bw P.wr
 gn:Gon w Z.bg P.gn
 n1:Z.bt≠Z.bw
 n2:Z.bt≠Z.bg
 n3:Z.bw≠Z.bg
 m1:¬Z.h.has Z.bt
 m2:¬Z.h.has Z.bw
 m3:¬Z.h.has Z.bg
structure Ptp(Z:Pz)(w:World)(Z':Pz)(w':World):Prop where
 g:Z'.g=Z.g
 hg:Z'.h.g=Z.h.g
 turn:Turn Z.has w w'
 has:∀b,Z'.has b→Z.has b∨w.heap.size≤b
section
variable {w w' w1:World} {Z Z' Z1:Pz} {P:Pgr}
theorem Ptp.refl(Z:Pz)(w:World):Ptp Z w Z w:=⟨rfl,rfl,Turn.refl _ _,fun _ h=> .inl h⟩
theorem Ptp.below(hb:Below w.heap.size w w'):Ptp Z w Z w':=⟨rfl,rfl,Turn.of_below hb,fun _ h=> .inl h⟩
theorem Ptp.trans(a:Ptp Z w Z1 w1)(b:Ptp Z1 w1 Z' w'):Ptp Z w Z' w':=
 ⟨b.g.trans a.g,b.hg.trans a.hg,a.turn.trans b.turn a.has,fun x hx=>(b.has x hx).elim (a.has x) fun h=> .inr (Nat.le_trans a.turn.size h)⟩
theorem Pg.later(p:Pg w Z P)(hb:Below w.heap.size w w'):Pg w' Z P:=
 ⟨p.dk.later hb,p.mt.later hb,p.blk.later hb,p.tb.later hb,p.wr.later hb,p.gn.later hb,p.n1,p.n2,p.n3,p.m1,p.m2,p.m3⟩
theorem Pg.lt(p:Pg w Z P){b:Nat}(hb:Z.has b):b<w.heap.size:=by
 rcases hb with rfl|rfl|rfl|rfl|rfl|h
 ·exact p.blk.lt
 ·exact p.mt.blk.lt
 ·exact p.tb.lt
 ·exact p.wr.lt
 ·exact p.gn.lt
 ·exact p.dk.lt h
theorem Pg.kinds(p:Pg w Z P){b:Nat}(hb:Z.has b):z0E w b=some (some 211)∨z0E w b=some (some 249)∨z0E w b=some (some 164)∨z0E w b=some none∨z0E w b=some (some 291):=by
 rcases hb with rfl|rfl|rfl|rfl|rfl|h
 ·exact .inl (z0F p.blk)
 ·exact .inr (.inl (z0F p.mt.blk))
 ·exact .inr (.inr (.inr (.inl p.tb.kind)))
 ·exact .inr (.inr (.inr (.inl p.wr.kind)))
 ·exact .inr (.inr (.inr (.inl p.gn.kind)))
 ·rcases p.dk.kinds h with h|h|h
  ·exact .inr (.inr (.inl h))
  ·exact .inr (.inr (.inr (.inl h)))
  ·exact .inr (.inr (.inr (.inr h)))
end
end
section
open Go Go.RowKit
open Go.ChangeMaps Go.MapKept in
section
variable {w w':World} {b:Nat} {t:TF} {f:SF} {g:Int→Bool}
theorem Tbl.map(h:Tbl w b t){z:Nat}(hz:b≠z)(hg:w.mapTurned w' z):Tbl w' b t:=⟨h.in90,h.mp.other hz hg.grown⟩
theorem Gon.map(h:Gon w b g){z:Nat}(hz:b≠z)(hg:w.mapTurned w' z):Gon w' b g:=⟨h.in90,h.mp.other hz hg.grown⟩
theorem Wrt.map(h:Wrt w b f){z:Nat}(hz:b≠z)(hk:z0E w z=some none)(hg:w.mapTurned w' z):Wrt w' b f:=⟨h.in90,h.mp.other hz (by rw [hk];simp) hg.grown⟩
theorem Turn.of_map{F:Nat→Prop}{z:Nat}(h:w.mapTurned w' z)(hF:F z):Turn F w w':=Turn.of_grown h.grown fun y hy=>by injection hy with hy;rw [←hy];exact hF
theorem Dk.map{h:Zn}{D:Dsk}(d:Dk w h D){z:Nat}(hz:¬h.has z)(hk:z0E w z=some none)(hg:w.mapTurned w' z):Dk w' h D:=by
 have hne:∀b,h.has b→b≠z:=fun b hb e=>hz (by rw [←e];exact hb)
 have hub:∀v l,Ub w 0 v l→Ub w' 0 v l:=fun v l h=>h.other (by rw [hk];simp) hg.grown
 have hblk:∀ {g:Nat} {t:TypeId} {cs:Array Value},Blk w g t cs→Blk w' g t cs:=fun {g t cs} hb=>hb.grown hg.grown fun e=>by
  injection e with e
  subst e;have:=z0F hb;rw [hk]at this;cases this
 have hsec:∀ {b n:Nat} {f:SF},Secs w b f n→h.has b→Secs w' b f n:=fun {b n f} hs hb=>by
  obtain⟨m,hm,hr⟩:=hs;exact⟨m,hm.other (hne b hb) hg.grown,fun x hx=>(hr x hx).keep hub⟩
 obtain⟨vs,ho,hp⟩:=d.pend;refine⟨hblk d.blk,hsec d.view (.inr (.inl rfl)),hsec d.ground (.inr (.inr (.inl rfl))),d.ne,vs,ho.other (fun e=>hz (.inr (.inr (.inr e)))) hg.grown,hp.keep fun v p hv=> ?_⟩;cases p with
 |wr a b=>
  obtain⟨ga,A,c,h1,h3,h4,h5⟩:=hv;exact⟨ga,A,c,h1,hblk h3,hblk h4,hub _ _ h5⟩
 |fr a=>
  obtain⟨ga,h1,h3⟩:=hv;exact⟨ga,h1,hblk h3⟩
theorem Blk.map{g:Nat}{t:TypeId}{cs:Array Value}(h:Blk w g t cs){z:Nat}(hk:z0E w z=some none)(hg:w.mapTurned w' z):Blk w' g t cs:=h.grown hg.grown fun e=>by
 injection e with e
 subst e;have:=z0F h;rw [hk]at this;cases this
end
section
variable {w w':World} {Z:Pz} {P:Pgr}
theorem Pg.putW(p:Pg w Z P){f:SF}(h:Wrt w' Z.bw f)(hg:w.mapTurned w' Z.bw):Pg w' Z {P with wr:=f}∧Ptp Z w Z w':=
 ⟨⟨p.dk.map p.m2 p.wr.kind hg,⟨p.mt.blk.map p.wr.kind hg⟩,p.blk.map p.wr.kind hg,p.tb.map p.n1 hg,h,p.gn.map (Ne.symm p.n3) hg,p.n1,p.n2,p.n3,p.m1,p.m2,p.m3⟩,⟨rfl,rfl,Turn.of_map hg (.inr (.inr (.inr (.inl rfl)))),fun b hb=> .inl hb⟩⟩
theorem Pg.putG(p:Pg w Z P){f:Int→Bool}(h:Gon w' Z.bg f)(hg:w.mapTurned w' Z.bg):Pg w' Z {P with gn:=f}∧Ptp Z w Z w':=
 ⟨⟨p.dk.map p.m3 p.gn.kind hg,⟨p.mt.blk.map p.gn.kind hg⟩,p.blk.map p.gn.kind hg,p.tb.map p.n2 hg,p.wr.map p.n3 p.gn.kind hg,h,p.n1,p.n2,p.n3,p.m1,p.m2,p.m3⟩,⟨rfl,rfl,Turn.of_map hg (.inr (.inr (.inr (.inr (.inl rfl))))),fun b hb=> .inl hb⟩⟩
end
theorem z62(Z:Pz)(P:Pgr)(x:Int)(w:World)(hp:Pg w Z P)(hx:InI x):
 Calls Tryz.prog 147 #[.pointer (some ⟨Z.g,0,none⟩),.int .i64 x] w fun e w'=>e= .returned (.bool (P.has x))∧Below w.heap.size w w':=by
 obtain⟨m,hm,hr⟩:=hp.wr.mp;have l1:=hm.look z1J wrTy (z32 w) hx;rw [(hr x hx).some_iff]at l1;have l2:=hp.gn.mp.look z1J zIc (zI0 w) hx;rw [z8I]at l2;have l3:=hp.tb.mp.look z1J tbTy (zI1 w) hx;rw [zE6,zCP]at l3;unfold plV at l3;have d5:w.cell? ⟨Z.g,5,none⟩=some (.map (some Z.bt)):=hp.blk.cell 5;have d6:w.cell? ⟨Z.g,6,none⟩=some (.map (some Z.bw)):=hp.blk.cell 6;have d7:w.cell? ⟨Z.g,7,none⟩=some (.map (some Z.bg)):=hp.blk.cell 7;unfold Pgr.has;generalize (m x).getD (.slice none 0 0)=v1 at*;generalize (gnV P.gn x).getD (.int .i64 0)=v2 at*;generalize (P.tb x).getD (0,0)=pl at*;generalize (P.wr x).isSome=bw at*;generalize (P.tb x).isSome=bt at*;generalize P.gn x=bg at*;clear hm hr hp hx;have q:=(Below.refl w.heap.size w).alloc (Nat.le_refl _) (.cells #[.int .i64 (pl.1:Int),.int .i64 (pl.2:Int)] 256);cases bw<;>cases bt<;>cases bg
 all_goals
  go_enter Tryz.func147,Tryz.ntmps147
  go_wp2_with fail
  go_ret
  exact⟨rfl,q⟩
theorem zGP(Z:Pz)(P:Pgr)(w:World)(hp:Pg w Z P):
 Calls Tryz.prog 90 #[.pointer (some ⟨Z.g,0,none⟩)] w fun e w'=>e= .returned (.int .u64 (P.tag:Int))∧w=w':=by
 have d4:w.cell? ⟨Z.g,4,none⟩=some (.int .u64 (P.tag:Int)):=hp.blk.cell 4;clear hp;go_enter Tryz.func90,Tryz.ntmps90
 go_wp2_with fail
 go_ret
 exact⟨rfl,rfl⟩
theorem zB8(Z:Pz)(P:Pgr)(p:Nat)(w:World)(hp:Pg w Z P)(h0:0≤P.a)(h1:P.a≤65536)(h2:p≤65536):
 Calls Tryz.prog 191 #[.pointer (some ⟨Z.g,0,none⟩),.int .i64 (p:Int)] w fun e w'=>e= .returned (.int .i64 (z7L P.a p))∧w=w':=by
 have d2:w.cell? ⟨Z.g,2,none⟩=some (.int .i64 P.a):=hp.blk.cell 2;clear hp;unfold z7L;go_enter Tryz.func191,Tryz.ntmps191
 go_wp2_with fail
 go_ret
 exact⟨by go_num,rfl⟩
def z7t(Z:Pz)(P':Pgr)(w w':World):Prop:=Pg w' Z P'∧Ptp Z w Z w'
end
end Go.Proofs.YtdkobefpnjbgnaaGreatDoor
