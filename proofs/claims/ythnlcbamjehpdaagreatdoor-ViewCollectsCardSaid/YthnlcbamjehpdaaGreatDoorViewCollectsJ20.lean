/- Part 20. -/
import Derived.Test.YthnlcbamjehpdaaGreatDoorViewCollectsJ19
namespace Go.Proofs.YthnlcbamjehpdaaGreatDoor
set_option linter.unusedVariables false
set_option maxHeartbeats 16000000
set_option maxRecDepth 100000
section
open Go Go.RowKit
theorem Wl.Ok.append{l:Wl}(ok:l.Ok)(t:List UInt8):(z0P l t).1.Ok:=by
 obtain⟨q,hq⟩:∃q,q=(l.last+1)%U64:=⟨_,rfl⟩;have hqU:q<U64:=by rw [hq];exact Nat.mod_lt _ (by unfold U64;omega)
 obtain⟨head,hh⟩:∃head,head=z7Q q titleB:=⟨_,rfl⟩;obtain⟨b,hb⟩:∃b,b=z7Q q t:=⟨_,rfl⟩;by_cases hlong:32768<t.length∨512*l.size<head.length+b.length
 .rw [z36 hq hh hb hlong];exact ok
 have key:∀ {L:List Sg} {s:List UInt8} {i:Nat} {fr:Bool},ApC l q head b L s i fr->(z0P l t).1.Ok:=by
  intro L s i fr c;obtain⟨r,hr⟩:∃r,z3t l.D (l.a+(i:Int)*l.size) (s++b) (s++b).length (z1l l fr / 512)=r:=⟨_,rfl⟩;have hD:r.1.Ok:=by rw [<-hr];exact zBy _ _ _ _ ok.dok
  by_cases h0:r.2=0
  .rw [z4U hq hh hb hlong c hr h0];exact c.ok ok hqU hlong hD
  .rw [z5r hq hh hb hlong c hr h0];cases fr with
   |true=>exact(ok.drop (z6U hD _ _)).sync
   |false=>exact ok.drop hD
 by_cases hfr:l.stream= []∨512*l.size<l.stream.length+b.length
 .cases hw:z37 l.live l.n with
  |none=>rw [z35 hq hh hb hlong hfr hw];exact ok
  |some i=>exact key (L:=l.live++ [⟨i,q,0⟩]) (s:=head) (i:=i) (fr:=true) ⟨fun _=>⟨hfr,hw,rfl,rfl⟩,fun e=>(by cases e)⟩
 .exact key (L:=l.live) (s:=l.stream) (fr:=false) ⟨fun e=>(by cases e),fun _=>⟨hfr,rfl,rfl,rfl⟩⟩
theorem z8o{D:Dsk}(hf:∀x,D.view x=none)(p:Int):∀n,z68 D p n=D
 |0=>rfl
 |n+1=>by
  rw [z68,z8o hf p n];unfold Dsk.free;rw [hf];rfl
end
section
open Go
theorem zIW(D:Dsk)(a:Int)(c:List UInt8):(D.write a c).size=D.size/\(D.write a c).limit=D.limit:=by
 unfold Dsk.write
 split<;>exact⟨rfl,rfl⟩
theorem zGz{D:Dsk}{a:Int}{c:List UInt8}{y:Int}(h:((D.write a c).view y).isSome=true):y=a∨(D.view y).isSome=true:=by
 unfold Dsk.write at h
 split at h
 .by_cases e:y=a
  .exact .inl e
  .right;have h2:((D.view.put a (z3U _ _ _)) y).isSome=true:=h;unfold SF.put at h2
   rwa [yA e]at h2
 .exact .inr h
theorem zGm{b:List UInt8}{p:Int}(h0:802<=p)(h1:p+16<=930)(hb:b.length<=512*16):∀ (m k:Nat) (D:Dsk),D.Ok->(D.size=1000/\D.limit=1000)->(∀y,(D.view y).isSome=true->802<=y/\y<930)->
 (z3t D p b m k).2=0/\((z3t D p b m k).1.size=1000/\(z3t D p b m k).1.limit=1000)/\∀y,((z3t D p b m k).1.view y).isSome=true->802<=y/\y<930
 |0,k,D,hD,hs,hk=>by rw [z3t];exact⟨rfl,hs,hk⟩
 |m+1,k,D,hD,hs,hk=>by
  rw [z3t]
  split
  .rename_i hlt;have hw:D.why (p+(k:Int)) ((b.drop (512*k)).take 512)=0:=zIV (lo:=802) (M:=128) hD (fun y hy=>by have:=hk y hy;omega) (by omega) (by omega) (by omega) (by omega) (by omega) (by rw [yC];omega);rw [yB hw];obtain⟨e1,e2⟩:=zIW D (p+(k:Int)) ((b.drop (512*k)).take 512);refine zGm h0 h1 hb m (k+1) _ (hD.write _ _) ⟨e1.trans hs.1,e2.trans hs.2⟩ fun y hy=> ?_
   rcases zGz hy with rfl|hy
   .omega
   .exact hk y hy
  .exact⟨rfl,hs,hk⟩
theorem zDT{live:List Sg}{n:Nat}(h:live.length<n):z37 live n≠none:=fun hn=>by
 unfold z37 at hn;rw [Yk]at hn;have hm:∀i,i<n->i∈live.map (·.at'):=fun i hi=>by
  have:=hn i (yt.2 hi);simp only [Zi,Bool.not_eq_false]at this;obtain⟨s,hs,e⟩:=z4A.1 this;exact yP.2 ⟨s,hs,e⟩
 have:=z3N live.length ((List.range n).map fun i=>(live.map (·.at')).idxOf i) (z45 _ (fun x hx y hy e=>by
  have h1:=List.getElem_idxOf (Zl (hm x (yt.1 hx)));have h2:=List.getElem_idxOf (Zl (hm y (yt.1 hy)));rw [<-h1,<-h2];simp only [e]) Qg) (fun y hy=>by
  obtain⟨x,hx,rfl⟩:=yP.1 hy;have:=Zl (hm x (yt.1 hx))
  rwa [yw]at this)
 rw [yw,ZJ]at this;omega
structure LgK(l:Wl)(k:Nat):Prop where
 pl:l.a=802/\l.n=8/\l.size=16
 dsk:l.D.size=1000/\l.D.limit=1000
 keys:∀y,(l.D.view y).isSome=true->802<=y/\y<930
 live:l.live.length<=k
theorem LgK.more{l:Wl}{k m:Nat}(h:LgK l k)(hm:k<=m):LgK l m:=⟨h.pl,h.dsk,h.keys,yD h.live hm⟩
theorem zFu{q:Nat}(hq:q<U64){u:List UInt8}(hu:u.length<=7000):(z7Q q u).length<=u.length+30:=by
 rw [z9P];unfold zAz;have h1:=z09 hq;have h2:(z0C u.length).length<=10:=z09 (by unfold U64;omega);rw [y6,y6];omega
theorem LgK.append{l:Wl}{k:Nat}(h:LgK l k)(ok:l.Ok){t:List UInt8}(ht:t.length<=7000):LgK (z0P l t).1 (k+1)/\((z0P l t).2.2=0∨(z0P l t).2.2=82/\8<=k):=by
 obtain⟨q,hq⟩:∃q,q=(l.last+1)%U64:=⟨_,rfl⟩;obtain⟨head,hh⟩:∃head,head=z7Q q titleB:=⟨_,rfl⟩;obtain⟨b,hb⟩:∃b,b=z7Q q t:=⟨_,rfl⟩;have hqU:q<U64:=by rw [hq];exact Nat.mod_lt _ (by unfold U64;omega)
 have h1:=zFu hqU ht;have h2:=zFu hqU (u:=titleB) (by decide);have h3:titleB.length=7:=rfl;rw [<-hb]at h1;rw [<-hh]at h2;obtain⟨ha,hn,hs⟩:=h.pl;have hlong:¬ (32768<t.length∨512*l.size<head.length+b.length):=by rw [hs];omega
 have key:∀ {L:List Sg} {s:List UInt8} {i:Nat} {fr:Bool},ApC l q head b L s i fr->L.length<=k+1->LgK (z0P l t).1 (k+1)/\(z0P l t).2.2=0:=by
  intro L s i fr c hL;have hl:=c.lens ok hlong;rw [hs,hn]at hl;obtain⟨p1,p2,p3⟩:=zGm (b:=s++b) (p:=l.a+(i:Int)*l.size) (by rw [ha,hs];omega) (by rw [ha,hs];have:=hl.2.1;omega) hl.1 (s++b).length (z1l l fr / 512) l.D ok.dok h.dsk h.keys;rw [z4U hq hh hb hlong c rfl p1];exact⟨⟨h.pl,p2,p3,by show(z3q L).length<=k+1;rw [show(z3q L).length=L.length from by have:=congrArg List.length (z6C L);simpa using this];exact hL⟩,rfl⟩
 by_cases hfr:l.stream= []∨512*l.size<l.stream.length+b.length
 .cases hw:z37 l.live l.n with
  |none=>
   have h8:8<=k:=by
    have:=h.live;have hnot:¬l.live.length<l.n:=fun q=>zDT q hw
    omega
   rw [z35 hq hh hb hlong hfr hw];exact⟨h.more (by omega),.inr ⟨rfl,h8⟩⟩
  |some i=>
   obtain⟨a1,a2⟩:=key (L:=l.live++ [⟨i,q,0⟩]) (s:=head) (i:=i) (fr:=true) ⟨fun _=>⟨hfr,hw,rfl,rfl⟩,fun e=>(by cases e)⟩ (by have:=h.live;rw [y6];simpa using this);exact⟨a1,.inl a2⟩
 .obtain⟨a1,a2⟩:=key (L:=l.live) (s:=l.stream) (fr:=false) ⟨fun e=>(by cases e),fun _=>⟨hfr,rfl,rfl,rfl⟩⟩ (by have:=h.live;omega);exact⟨a1,.inl a2⟩
end
end Go.Proofs.YthnlcbamjehpdaaGreatDoor
