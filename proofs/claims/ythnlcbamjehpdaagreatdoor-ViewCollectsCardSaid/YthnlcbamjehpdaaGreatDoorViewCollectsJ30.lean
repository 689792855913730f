/- Part 30. -/
import Derived.Test.YthnlcbamjehpdaaGreatDoorViewCollectsJ28
namespace Go.Proofs.YthnlcbamjehpdaaGreatDoor
set_option linter.unusedVariables false
set_option maxHeartbeats 16000000
set_option maxRecDepth 100000
section
open Go Go.RowKit
structure Vb where
 g:Nat
 t:TypeId
 c:Array Value
def zJi:List TypeId:=202::zH1
structure Loc(F:Nat->Prop)(w W:World)(g:Nat)(Z:Pz)(P:Pgr)(c:Int->List UInt8)(bs:List Vb)(cs:List (Value×List Cel)):Prop where
 T:Tg W g Z P c
 S:Ptp Z w Z W
 z:∀b,Z.has b->b<w.heap.size
 g0:g<w.heap.size
 b:∀x∈bs,Blk W x.g x.t x.c/\w.heap.size<=x.g/\x.t∉zJi
 d:(bs.map (·.g)).Nodup
 c:∀x∈cs,Cs (fun b=>(F b∨w.heap.size<=b)/\b<W.heap.size/\¬Z.has b/\b∉bs.map (·.g)) W x.1 x.2
section
variable {F:Nat->Prop} {w W W':World} {g:Nat} {Z:Pz} {P P':Pgr} {c:Int->List UInt8} {bs:List Vb} {cs:List (Value×List Cel)}
theorem Loc.start(F:Nat->Prop)(T:Tg w g Z P c):Loc F w w g Z P c [] []:=⟨T,Ptp.refl _ _,fun b h=>T.pg.lt h,T.blk.lt,by simp,by simp,by simp⟩
theorem Loc.nz(h:Loc F w W g Z P c bs cs){b:Nat}(hb:w.heap.size<=b):¬Z.has b:=fun e=>by have:=h.z b e;omega
theorem Loc.size(h:Loc F w W g Z P c bs cs):w.heap.size<=W.heap.size:=h.S.turn.size
theorem Loc.pos(h:Loc F w W g Z P c bs cs):0<w.heap.size:=QY (yU _) h.g0
theorem Loc.ptp(h:Loc F w W g Z P c bs cs)(T:Tg W' g Z P' c)(s:Ptp Z W Z W'):Loc F w W' g Z P' c bs cs:=
 ⟨T,h.S.trans s,h.z,h.g0,fun x hx=>⟨(h.b x hx).1.ptp s (h.nz (h.b x hx).2.1),(h.b x hx).2⟩,h.d,fun x hx=>(Cs.ptp (h.c x hx) s fun b hb=>⟨hb.2.1,hb.2.2.1⟩).more fun b hb=>⟨hb.1,yE hb.2.1 s.turn.size,hb.2.2⟩⟩
theorem Loc.later(h:Loc F w W g Z P c bs cs)(hb:Below W.heap.size W W'):Loc F w W' g Z P c bs cs:=h.ptp (h.T.later hb) (Ptp.below hb)
theorem Loc.done(h:Loc F w W g Z P c bs cs)(d:z1O g Z P' c W W'):Loc F w W' g Z P' c bs cs:=h.ptp d.1 d.2
theorem Loc.new(h:Loc F w W g Z P c bs cs)(t:TypeId)(a:Array Value)(ht:t∉zJi):Loc F w (W.alloc (.cells a t)) g Z P c (⟨W.heap.size,t,a⟩::bs) cs:=by
 have h2:=h.later ((y7 W.heap.size W).alloc (y5 _) (.cells a t));refine⟨h2.T,h2.S,h2.z,h2.g0,fun x hx=> ?_,?_,fun x hx=> ?_⟩
 .rcases y9.1 hx with rfl|hx
  .exact⟨Blk.new _ _ _,h.size,ht⟩
  .exact h2.b x hx
 .rw [yy,YA];refine⟨fun hm=> ?_,h.d⟩;obtain⟨x,hx,e⟩:=yP.1 hm;have:=(h.b x hx).1.lt;simp only at e;omega
 .exact((Sl.below (h.c x hx) ((y7 W.heap.size W).alloc (y5 _) (.cells a t)) fun b hb=>hb.2.1).more fun b hb=>⟨hb.1,by have:=hb.2.1;simp;omega,hb.2.2.1,fun hm=>by
   rw [yy]at hm;rcases y9.1 hm with e|hm
   .have:=hb.2.1;simp only at e;omega
   .exact hb.2.2.2 hm⟩)
theorem Loc.turn(h:Loc F w W g Z P c bs cs){z:Nat}{t:TypeId}{a a':Array Value}{l r:List Vb}(e:bs=l++⟨z,t,a⟩::r)(hb:Blk W' z t a')(hg:W.grownBy W' (some z)):Loc F w W' g Z P c (l++⟨z,t,a'⟩::r) cs:=by
 subst e;have hz:=h.b ⟨z,t,a⟩ (by simp);have hm:(l++⟨z,t,a'⟩::r).map (·.g)=(l++⟨z,t,a⟩::r).map (·.g):=by simp
 have hne:∀x:Vb,x∈l∨x∈r->x.g≠z:=fun x hx e=>by
  have hd:=h.d;rw [Y6,yy,ZI]at hd;obtain⟨h1,h2,h3⟩:=hd;rcases hx with hx|hx
  .exact h3 _ (yP.2 ⟨x,hx,rfl⟩) z (by simp) e
  .rw [YA]at h2;exact h2.1 (yP.2 ⟨x,hx,e⟩)
 have ht:t∉zH1:=fun h=>hz.2.2 (ym _ h)
 have ht2:t≠202:=fun h=>hz.2.2 (by rw [h];exact YJ ..)
 have hzg:g≠z:=fun e=>by have:=h.g0;have:=hz.2.1;simp only at this;omega
 refine⟨⟨h.T.pg.other (z0I hz.1) ht hg,h.T.blk.grown hg (fun e=>hzg (by injection e with e;exact e.symm)),h.T.pr,fun k hk=> ?_,h.T.z0⟩,Ptp.new h.S hg (.inr hz.2.1),h.z,h.g0,fun x hx=> ?_,by rw [hm];exact h.d,fun x hx=> ?_⟩
 .rw [<-h.T.bits k hk];exact yR (hg.block 0 h.T.bits.pos (fun e=>by injection e with e;have h1:=hz.2.1;simp only at h1;have:=h.pos;omega))
 .rcases yF.1 hx with hx|hx
  .exact⟨(h.b x (by simp [hx])).1.grown hg (fun e=>hne x (.inl hx) (by injection e with e;exact e.symm)),(h.b x (by simp [hx])).2⟩
  .rcases y9.1 hx with rfl|hx
   .exact⟨hb,hz.2⟩
   .exact⟨(h.b x (by simp [hx])).1.grown hg (fun e=>hne x (.inr hx) (by injection e with e;exact e.symm)),(h.b x (by simp [hx])).2⟩
 .rw [hm];exact(Sl.grown (h.c x hx) hg (fun b hb=>hb.2.1) (fun b hb e=>hb.2.2.2 (by injection e with e;rw [e];simp))).more fun b hb=>⟨hb.1,yE hb.2.1 hg.size,hb.2.2⟩
theorem Loc.put(h:Loc F w W g Z P c bs cs){z:Nat}{t:TypeId}{a:Array Value}{l r:List Vb}(e:bs=l++⟨z,t,a⟩::r)(i:Nat)(u:Value):Loc F w (W.setCell ⟨z,i,none⟩ u) g Z P c (l++⟨z,t,a.setIfInBounds i u⟩::r) cs:=
 h.turn e ((h.b ⟨z,t,a⟩ (by subst e;simp)).1.put i u) (z0n _ _ _ _)
theorem Loc.put3(h:Loc F w W g Z P c bs cs){z:Nat}{t:TypeId}{a b d:Value}{l r:List Vb}(e:bs=l++⟨z,t,#[a,b,d]⟩::r)(x y u:Value):
 Loc F w (((W.setCell ⟨z,0,none⟩ x).setCell ⟨z,1,none⟩ y).setCell ⟨z,2,none⟩ u) g Z P c (l++⟨z,t,#[x,y,u]⟩::r) cs:=
 ((h.put e 0 x).put rfl 1 y).put rfl 2 u
theorem Loc.call(h:Loc F w W g Z P c bs cs)(hb:Below W.heap.size W W'){v:Value}{cl:List Cel}(hc:Cs (fun b=>W.heap.size<=b/\b<W'.heap.size) W' v cl):Loc F w W' g Z P c bs ((v,cl)::cs):=by
 have h2:=h.later hb;refine⟨h2.T,h2.S,h2.z,h2.g0,h2.b,h2.d,fun x hx=> ?_⟩;rcases y9.1 hx with rfl|hx
 .exact hc.more fun b hb'=>⟨.inr (yD h.size hb'.1),hb'.2,h.nz (yD h.size hb'.1),fun hm=>by
   obtain⟨x,hx,e⟩:=yP.1 hm;have:=(h.b x hx).1.lt;have:=hb'.1;omega⟩
 .exact h2.c x hx
theorem Loc.old(h:Loc F w W g Z P c bs cs){v:Value}{cl:List Cel}(hc:Cs F w v cl)(hF:∀b,F b->b<w.heap.size/\¬Z.has b):Loc F w W g Z P c bs ((v,cl)::cs):=by
 refine⟨h.T,h.S,h.z,h.g0,h.b,h.d,fun x hx=> ?_⟩;rcases y9.1 hx with rfl|hx
 .exact(Cs.ptp hc h.S hF).more fun b hb=>⟨.inl hb,yE (hF b hb).1 h.size,(hF b hb).2,fun hm=>by
   obtain⟨x,hx,e⟩:=yP.1 hm;have:=(h.b x hx).2.1;have:=(hF b hb).1;omega⟩
 .exact h.c x hx
theorem Loc.swap{x y:Vb}(h:Loc F w W g Z P c (x::y::bs) cs):Loc F w W g Z P c (y::x::bs) cs:=by
 have hm:∀b:Nat,b∈(y::x::bs).map (·.g)↔b∈(x::y::bs).map (·.g):=fun b=>by
  simp only [yy,y9];exact or_left_comm
 have hd:=h.d;simp only [yy,YA,y9,not_or]at hd;refine⟨h.T,h.S,h.z,h.g0,fun v hv=>h.b v (by simp only [y9]at hv ⊢;exact or_left_comm.1 hv),?_,fun v hv=>(h.c v hv).more fun b hb=>⟨hb.1,hb.2.1,hb.2.2.1,fun e=>hb.2.2.2 ((hm b).1 e)⟩⟩;simp only [yy,YA,y9,not_or];exact⟨⟨fun e=>hd.1.1 e.symm,hd.2.1⟩,hd.1.2,hd.2.2⟩
theorem Loc.b0{x:Vb}(h:Loc F w W g Z P c (x::bs) cs):Blk W x.g x.t x.c:=(h.b x (by simp)).1
theorem Loc.b1{a x:Vb}(h:Loc F w W g Z P c (a::x::bs) cs):Blk W x.g x.t x.c:=(h.b x (by simp)).1
theorem Loc.b2{a b x:Vb}(h:Loc F w W g Z P c (a::b::x::bs) cs):Blk W x.g x.t x.c:=(h.b x (by simp)).1
theorem Loc.b3{a b d x:Vb}(h:Loc F w W g Z P c (a::b::d::x::bs) cs):Blk W x.g x.t x.c:=(h.b x (by simp)).1
theorem Loc.b4{a b d e x:Vb}(h:Loc F w W g Z P c (a::b::d::e::x::bs) cs):Blk W x.g x.t x.c:=(h.b x (by simp)).1
theorem Loc.b5{a b d e f x:Vb}(h:Loc F w W g Z P c (a::b::d::e::f::x::bs) cs):Blk W x.g x.t x.c:=(h.b x (by simp)).1
theorem Loc.b6{a b d e f i x:Vb}(h:Loc F w W g Z P c (a::b::d::e::f::i::x::bs) cs):Blk W x.g x.t x.c:=(h.b x (by simp)).1
theorem Loc.c0{x:Value×List Cel}(h:Loc F w W g Z P c bs (x::cs)):Cs (fun b=>(F b∨w.heap.size<=b)/\b<W.heap.size/\¬Z.has b/\b∉bs.map (·.g)) W x.1 x.2:=h.c x (by simp)
theorem Loc.c1{a x:Value×List Cel}(h:Loc F w W g Z P c bs (a::x::cs)):Cs (fun b=>(F b∨w.heap.size<=b)/\b<W.heap.size/\¬Z.has b/\b∉bs.map (·.g)) W x.1 x.2:=h.c x (by simp)
theorem Loc.c2{a b x:Value×List Cel}(h:Loc F w W g Z P c bs (a::b::x::cs)):Cs (fun b=>(F b∨w.heap.size<=b)/\b<W.heap.size/\¬Z.has b/\b∉bs.map (·.g)) W x.1 x.2:=h.c x (by simp)
theorem Loc.add(h:Loc F w W g Z P c bs cs)(hb:Below W.heap.size W W'){z:Nat}{t:TypeId}{a:Array Value}(hz:W.heap.size<=z)(hB:Blk W' z t a)(ht:t∉zJi):Loc F w W' g Z P c (⟨z,t,a⟩::bs) cs:=by
 have h2:=h.later hb;refine⟨h2.T,h2.S,h2.z,h2.g0,fun x hx=> ?_,?_,fun x hx=> ?_⟩
 .rcases y9.1 hx with rfl|hx
  .exact⟨hB,yD h.size hz,ht⟩
  .exact h2.b x hx
 .rw [yy,YA];refine⟨fun hm=> ?_,h.d⟩;obtain⟨x,hx,e⟩:=yP.1 hm;have:=(h.b x hx).1.lt;simp only at e;omega
 .exact(Sl.below (h.c x hx) hb fun b hb=>hb.2.1).more fun b hb'=>⟨hb'.1,yE hb'.2.1 hb.size,hb'.2.2.1,fun hm=>by
   rw [yy]at hm;rcases y9.1 hm with e|hm
   .have:=hb'.2.1;simp only at e;omega
   .exact hb'.2.2.2 hm⟩
theorem Loc.drew(h:Loc F w W g Z P c bs cs):Loc F w W.drew g Z P c bs cs:=h.later ((y7 _ _).drew)
theorem Loc.sub(h:Loc F w W g Z P c bs cs){cs':List (Value×List Cel)}(hs:∀x∈cs',x∈cs):Loc F w W g Z P c bs cs':=⟨h.T,h.S,h.z,h.g0,h.b,h.d,fun x hx=>h.c x (hs x hx)⟩
theorem Loc.drop(h:Loc F w W g Z P c bs cs){bs':List Vb}(hs:bs'.Sublist bs):Loc F w W g Z P c bs' cs:=
 ⟨h.T,h.S,h.z,h.g0,fun x hx=>h.b x (hs.mem hx),h.d.sublist (hs.map _),fun x hx=>(h.c x hx).more fun b hb=>⟨hb.1,hb.2.1,hb.2.2.1,fun hm=>hb.2.2.2 ((hs.map _).mem hm)⟩⟩
theorem Loc.ne(h:Loc F w W g Z P c bs cs){x y:Vb}{l r:List Vb}(e:bs=l++x::r)(hy:y∈l∨y∈r):y.g≠x.g:=fun he=>by
 have hd:=h.d;subst e;rw [Y6,yy,ZI]at hd;obtain⟨h1,h2,h3⟩:=hd;rcases hy with hx|hx
 .exact h3 _ (yP.2 ⟨y,hx,rfl⟩) x.g (by simp) he
 .rw [YA]at h2;exact h2.1 (yP.2 ⟨y,hx,he⟩)
theorem Loc.fin(h:Loc F w W g Z P c bs cs):z1O g Z P c w W:=⟨h.T,h.S⟩
theorem Loc.keptB(h:Loc F w W g Z P c bs cs){z i n:Nat}{t:TypeId}{a:Array Value}{l r:List Vb}(e:bs=l++⟨z,t,a⟩::r)(hk:Kept (ptE [⟨i,z,t,0,n⟩]) W W'){a':Array Value}(hb:Blk W' z t a'):Loc F w W' g Z P c (l++⟨z,t,a'⟩::r) cs:=h.turn e hb (Kept.grown1 hk)
theorem Loc.toCs{x:Vb}(h:Loc F w W g Z P c (x::bs) cs){v:Value}{cl:List Cel}(hc:Cs (fun b=>b=x.g) W v cl):Loc F w W g Z P c bs ((v,cl)::cs):=by
 have h2:=h.drop (List.sublist_cons_self x bs);refine⟨h2.T,h2.S,h2.z,h2.g0,h2.b,h2.d,fun y hy=> ?_⟩;rcases y9.1 hy with rfl|hy
 .have hb:=h.b x (by simp);have hd:=h.d;rw [yy,YA]at hd;exact hc.more fun b e=>by subst e;exact⟨.inr hb.2.1,hb.1.lt,h.nz hb.2.1,hd.1⟩
 .exact h2.c y hy
theorem zEi{w:World}{z n k:Nat}{a:Array Value}{cl:List Cel}(hB:Blk w z 94 a)(hn:n=cl.length)(hk:n<=k)(hm:k<=maxLen)(ha:a.toList.take (cl.length*2)=ccs cl)(h0:0<n):Cs (fun b=>b=z) w (.slice (some ⟨z,0,none⟩) n k) cl:=by
 subst hn;refine⟨?_,_,k,rfl,hk,hm,(fun e=>by cases e),fun _=>⟨z,0,rfl,rfl,fun j u hu=> ?_⟩⟩
 .exact z1c cl
 .rw [Y4,hB.cell j];rw [<-ha,List.getElem?_take]at hu
  split at hu
  .simpa using hu
  .cases hu
end
end
end Go.Proofs.YthnlcbamjehpdaaGreatDoor
