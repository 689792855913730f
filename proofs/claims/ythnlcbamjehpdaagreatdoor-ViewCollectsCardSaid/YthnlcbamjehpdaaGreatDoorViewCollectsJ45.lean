/- Part 45. -/
import Derived.Test.YthnlcbamjehpdaaGreatDoorViewCollectsJ44
namespace Go.Proofs.YthnlcbamjehpdaaGreatDoor
set_option linter.unusedVariables false
set_option maxHeartbeats 16000000
set_option maxRecDepth 100000
section
open Go Go.RowKit Tryz
theorem z58{at_ hor:Nat}(ha:at_<U64)(hh:hor<U64){ws:List Wri}(hw:∀x∈ws,x.Ok):∀x∈z0b at_ hor ws,x.gone=false/\x.k.length<=139/\x.k.length+x.v.length<=480:=fun x hx=>by
 unfold z0b at hx;rcases y9.1 hx with rfl|hx
 .have:=zCx ha hh;have h1:ttlK.length=1:=rfl;exact⟨rfl,by simp only;omega,by simp only;omega⟩
 .obtain⟨y,hy,rfl⟩:=yP.1 hx;have h1:=z3a at_ (hw y hy).k64;have h2:(z90 (y.vs at_)).length<=257:=zHO (hw y hy).v;exact⟨rfl,h1,by show(z10 y.k at_).length+(z90 (y.vs at_)).length<=480;omega⟩
theorem z3X(at_ hor:Nat)(ws:List Wri):(z0b at_ hor ws).length=ws.length+1:=by unfold z0b;simp
theorem zDL{P:Pgr}{at_ hor:Nat}(ha:at_<U64)(hh:hor<U64){ws:List Wri}(hw:∀x∈ws,x.Ok)(h8:ws.length<=8):z3s P (z0b at_ hor ws)=0∨z3s P (z0b at_ hor ws)=141/\64<P.pages.length:=by
 have hb:=z58 ha hh hw;have hl:=z3X at_ hor ws;unfold z3s;rw [yA (by omega),yA]
 .have:z2A (z0b at_ hor ws)<=ws.length+1:=hl▸z9O _
  split
  .exact .inr ⟨rfl,by omega⟩
  .exact .inl rfl
 .intro h;obtain⟨x,hx,hbad⟩:=Z6.1 h;obtain⟨h1,h2,h3⟩:=hb x hx;unfold z3x chN at hbad;rw [h1]at hbad;simp only [yu,yv,Z2,yd]at hbad;omega
theorem z6k:∀ {l:List Chg},(∀x∈l,x.k.length+x.v.length<=480)->(l.flatMap z7r).length<=510*l.length
 | [],_=>by simp
 |a::l,h=>by
  have h0:=h a (by simp);have h1:=z1j a.k (by omega);have h2:(z0C a.k.length).length<=10:=z09 (by unfold U64;omega);have h4:=z1j a.v (by omega);have h5:(z0C a.v.length).length<=10:=z09 (by unfold U64;omega);have h6:(z3I a.gone).length=1:=by cases a.gone<;>rfl
  have h7:=z6k fun x hx=>h x (ym _ hx)
  have h8:(if a.gone then []else z0y a.v).length<=(z0y a.v).length:=by split<;>simp
  have h9:(z7r a).length<=510:=by
   unfold z7r;rw [y6,y6];omega
  rw [yb,y6,y8];omega
theorem zBB{at_ hor:Nat}(ha:at_<U64)(hh:hor<U64){ws:List Wri}(hw:∀x∈ws,x.Ok)(h8:ws.length<=8):(z1e (z0b at_ hor ws)).length<=7000:=by
 have hbd:=z58 ha hh hw;have h4:=z6k (l:=z0b at_ hor ws) fun y hy=>(hbd y hy).2.2
 rw [z3X]at h4;have h5:(z0C (z0b at_ hor ws).length).length<=10:=z09 (by rw [z3X];unfold U64;omega);unfold z1e;rw [y6];omega
theorem Sto.put{w:World}{gs g gl:Nat}{Z:Pz}{P:Pgr}{c:Int->List UInt8}{l:Wl}(s:Sto w gs g gl Z P c l){gv:Nat}{cs:Array Value}(hb:Blk w gv 99 cs)(h0:gv≠0)(i:Nat)(u:Value):Sto (w.setCell ⟨gv,i,none⟩ u) gs g gl Z P c l:=by
 have hs:SameK stKs w (w.setCell ⟨gv,i,none⟩ u):=SameK.setCell (p:=⟨gv,i,none⟩) hb (by decide) u;have T:=s.T.put (i:=i) (z0I hb) (by decide) (Blk.ne hb s.T.blk (by decide)) h0 u;obtain⟨lv,sv,g'⟩:=s.lg;exact⟨s.blk.sameK hs (by decide),T,⟨lv,sv,by rw [s.D];exact T.pg.dk,g'.lb.sameK hs (by decide),KSl.same g'.live hs (by decide),g'.str.same hs (by decide)⟩,s.D,s.ok⟩
structure Vx(w W:World)(gv gs g gl:Nat)(Z:Pz)(P:Pgr)(c:Int->List UInt8)(l:Wl)(N:Nat)(rows:List Rw)(tl:List Cel)(last hor:Nat):Prop where
 s:Sy w W gs g gl Z P c l N (vwC rows tl)
 blk:Blk W gv 99 #[.pointer (some ⟨gs,0,none⟩),.int .u64 (last:Int),.int .u64 (hor:Int)]
 gvn:w.heap.size<=gv
 pos:0<w.heap.size
 bits:BitsOk W
 ok:RowsOk rows
 tok:zEK tl
 under:zDC rows (last+1)
 hl:hor<=last
 ln:last<=N
section
variable {w W W':World} {gv gs g gl:Nat} {Z Z':Pz} {P P':Pgr} {c:Int->List UInt8} {l l':Wl} {N:Nat} {rows:List Rw} {tl:List Cel} {last hor:Nat}
theorem Vx.later(x:Vx w W gv gs g gl Z P c l N rows tl last hor)(hb:Below W.heap.size W W'):Vx w W' gv gs g gl Z P c l N rows tl last hor:=
 ⟨x.s.later hb,x.blk.later hb,x.gvn,x.pos,x.bits.later hb,x.ok,x.tok,x.under,x.hl,x.ln⟩
theorem Vx.vv(x:Vx w W gv gs g gl Z P c l N rows tl last hor)(hN:N<=90):Vv W gv gs g rows tl last hor:=
 ⟨x.blk,⟨_,_,x.s.s.blk⟩,x.s.range hN,x.ok,x.tok,x.bits⟩
theorem Vx.few(x:Vx w W gv gs g gl Z P c l N rows tl last hor)(hN:N<=90):(z0x rows).length<=100000:=by
 have:=x.s.len;unfold vwC at this;rw [y6]at this;omega
theorem zA5{at_:Nat}{ws:List Wri}{rows:List Rw}(h:RowsOk rows)(hu:zDC rows at_)(hw:∀w∈ws,w.Ok)(hd:ws.Pairwise fun a b=>a.k≠b.k)(h0:0<at_)(h64:at_<U64):zDC (z2f at_ rows ws) (at_+1):=fun r hr x hx=>by
 obtain⟨h1,h2⟩:=z4n h (fun w hm=>⟨hw w hm,fun x hx=>by obtain⟨r,hr,_,hv⟩:=z4S hx;exact hu r hr x (hv▸hx)⟩) hd h0 h64;have hc:=(h2 (z7s r.k x)).1 (z43.2 ⟨r,hr,x,hx,rfl⟩);have ht:=((h1.rw r hr).vs x hx).t64;rcases hc with hc|⟨w,hw2,hc⟩
 .obtain⟨r2,hr2,x2,hx2,e⟩:=z43.1 hc;have h3:=hu r2 hr2 x2 hx2;have h4:=(z2z ht ((h.rw r2 hr2).vs x2 hx2).t64 (congrArg Prod.fst e)).2;omega
 .have h4:=(z2z ht h64 (congrArg Prod.fst hc)).2;have h5:(w.vs at_).t=at_:=rfl;omega
theorem zGj(x:Vx w W gv gs g gl Z P c l N rows tl last hor)(hN:N<=90)(S:Nat->Prop)(v0:Value)(ws:List Wri)(hr:Wrs S W v0 ws)(hc:z5w ws=0){pg:Nat}(hpg:gv=pg):
 Calls prog 16 #[.pointer (some ⟨pg,0,none⟩),.int .u64 ((last+1:Nat):Int),v0] W fun e W'=>∃er:Nat,e= .returned (.int .i64 (er:Int))/\(er=0∨(er=141∨er=82)/\3<=N)/\
  ∃Z' P' l',Vx w W' gv gs g gl Z' P' c l' (N+1) (if er=0 then z2f (last+1) rows ws else rows) (if er=0 then [(ttlK,z62 (last+1) hor)]else tl) (if er=0 then last+1 else last) hor/\Turn (fun b=>Z.has b∨b=gl∨b=gv) W W'/\∀b,Z'.has b->Z.has b∨W.heap.size<=b:=by
 obtain⟨ne,h8,hok,hasc⟩:=zEQ hc;have hln:=x.ln;have hhl:=x.hl;have haU:last+1<U64:=by unfold U64;omega
 have hhU:hor<U64:=by unfold U64;omega
 have hbd:=z58 (at_:=last+1) haU hhU hok;have hd:ws.Pairwise fun a b=>a.k≠b.k:=hasc.imp fun h=>h.ne
 obtain⟨hrows,hcells⟩:=zA4 x.ok x.tok hor x.under hok hd (by omega) haU;obtain⟨lv,sv,hlv⟩:=x.s.s.lg;have hgl:=hlv.lb.lt;have hgvgl:gv≠gl:=Blk.ne x.blk hlv.lb (by decide);have hzgv:¬Z.has gv:=Pz.not_kind x.s.s.T.pg (z0I x.blk) (by decide) (by decide) (by decide) (by decide);refine(zBt x.blk x.bits S v0 ws hr (by omega) hhU hc
  (fun er w'=>(er=0∨(er=141∨er=82)/\3<=N)/\∃Z' P' l',Sy w w' gs g gl Z' P' c l' (N+1) (if er=0 then z2P (vwC rows tl) (z0b (last+1) hor ws)else vwC rows tl)/\BitsOk w'/\Turn (fun b=>Z.has b∨b=gl) W w'/\∀b,Z'.has b->Z.has b∨W.heap.size<=b)
  (fun wg v1 hwg hch=> ?_) hpg).mono ?_
 .have hsg:=x.s.later hwg;have hap:=zCu hsg v1 (cs:=z0b (last+1) hor ws) (by
   exact Sl.more hch fun b hb=>⟨fun e=>by have:=x.s.s.T.pg.lt e;omega,by omega⟩) (by rw [z3X];omega) (fun y hy=>by have:=(hbd y hy).2;omega) (fun hm D'=>zGe x.s.tree hbd hm D') (fun y hy e=>by rw [(hbd y hy).1]at e;cases e) (zBB haU hhU hok h8) hN rfl
  refine hap.mono ?_;rintro e w' ⟨n,er,he,hfirst,Z',P',l',hsy,hop⟩;have ht:Turn (fun b=>Z.has b∨b=gl) W w':=(Turn.of_below hwg).trans hop.turn fun b hb=> .inl hb
  refine⟨n,er,he,⟨?_,Z',P',l',hsy,?_,ht,fun b hb=>(hop.has b hb).imp id fun h=>yD hwg.size h⟩,?_⟩
  .have hpg:=x.s.pages;rcases hfirst with h|h|h
   .exact .inl h
   .rcases zDL (P:=P) haU hhU hok h8 with h2|h2
    .exact .inl (h.trans h2)
    .exact .inr ⟨.inl (h.trans h2.1),by omega⟩
   .exact .inr ⟨.inr h.1,by omega⟩
  .exact hsy.s.T.bits
  .exact x.blk.turn ht (by rintro(h|h);exact hzgv h;exact hgvgl h)
 .rintro e W' ⟨er,w1,⟨hfirst,Z',P',l',hsy,hbits,htu,hhas⟩,hblk,hne,hz⟩;by_cases h0:er=0
  .subst h0;obtain⟨rfl,rfl⟩:=hz rfl;rw [yB rfl]at hsy;rw [hcells]at hsy;refine⟨0,rfl,.inl rfl,Z',P',l',?_,?_,hhas⟩
   .rw [yB rfl,yB rfl,yB rfl];have hgv0:gv≠0:=by have:=x.gvn;have:=x.pos;omega
    have hb2:=hblk.put 1 (.int .u64 ((last+1:Nat):Int));have hS:=hsy.s.put hblk hgv0 1 (.int .u64 ((last+1:Nat):Int));exact⟨⟨hS,hsy.tree,hsy.tb,hsy.new,hsy.gsn,hsy.gn,hsy.gln,hsy.below.setCell x.gvn _,hsy.size,hsy.pend,hsy.len,hsy.lk⟩,hb2,x.gvn,x.pos,hS.T.bits,hrows,.inr ⟨_,rfl⟩,zA5 x.ok x.under hok hd (by omega) haU,by omega,by omega⟩
   .exact(htu.mono fun b hb _=>hb.elim .inl fun h=> .inr (.inl h)).setCell (.inl (.inr (.inr rfl))) _
  .obtain⟨rfl,rfl⟩:=hne h0;rw [yA h0]at hsy;refine⟨er,rfl,hfirst,Z',P',l',?_,htu.mono fun b hb _=>hb.elim .inl fun h=> .inr (.inl h),hhas⟩;rw [yA h0,yA h0,yA h0];exact⟨hsy,hblk,x.gvn,x.pos,hbits,x.ok,x.tok,x.under,x.hl,by omega⟩
end
section
variable {w W W':World} {gv gs g gl:Nat} {Z Z':Pz} {P P':Pgr} {c:Int->List UInt8} {l l':Wl} {N:Nat} {rows:List Rw} {tl:List Cel} {last hor:Nat}
theorem zEh{cap at_:Nat}(h:RowsOk rows):∀y∈(z1k cap at_ rows 0).map fun y=>(⟨z10 y.1 y.2.t,[],true⟩:Chg),y.gone=true/\y.k.length<=139/\y.v= []:=fun y hy=>by
 obtain⟨z,hz,rfl⟩:=yP.1 hy;obtain⟨r,hr,e,-⟩:=z6I hz;have h1:=(h.rw r hr).k64;rw [e]at h1;have h2:=z3a z.2.t h1;exact⟨rfl,h2,rfl⟩
theorem zDK{cap at_:Nat}(h:zDC rows (last+1)):zDC (z3W cap at_ rows 0).1 (last+1):=fun r hr x hx=>by
 obtain⟨q,hq,d,rfl,-⟩:=z9I hr;exact h q hq x (yo hx)
theorem zBA{P:Pgr}{last cap at_:Nat}(hl11:(z1k cap at_ rows 0).length<=10)(hps:∀y∈ [(⟨ttlK,z62 last at_,false⟩:Chg)],y.gone=false/\y.k.length<=139/\y.k.length+y.v.length<=480)(hds:∀y∈(z1k cap at_ rows 0).map fun y=>(⟨z10 y.1 y.2.t,[],true⟩:Chg),y.gone=true/\y.k.length<=139/\y.v= []):
 z3s P (z3z last cap at_ rows)=0∨z3s P (z3z last cap at_ rows)=141/\64<P.pages.length:=by
 have hl:(z3z last cap at_ rows).length<=11:=by unfold z3z;rw [y8,yw];omega
 have hp:z2A (z3z last cap at_ rows)=1:=by
  unfold z3z z2A;rw [ZQ (by rfl),YX.2 fun y hy=>by simp [(hds y hy).1]];rfl
 unfold z3s;rw [yA (by omega),yA,hp]
 .split
  .exact .inr ⟨rfl,by omega⟩
  .exact .inl rfl
 .intro h;obtain⟨x,hx,hbad⟩:=Z6.1 h;unfold z3z at hx;unfold z3x chN at hbad;rcases y9.1 hx with rfl|hx
  .obtain⟨h1,h2,h3⟩:=hps _ (yJ.2 rfl);simp only [yu,yv,Z2,yd]at hbad h2 h3;omega
  .obtain⟨h1,h2,-⟩:=hds x hx;rw [h1]at hbad;simp only [YN,Z2,yd]at hbad;omega
theorem zA3{last cap at_:Nat}(hc:cap<=10)(hps:∀y∈ [(⟨ttlK,z62 last at_,false⟩:Chg)],y.gone=false/\y.k.length<=139/\y.k.length+y.v.length<=480)(hds:∀y∈(z1k cap at_ rows 0).map fun y=>(⟨z10 y.1 y.2.t,[],true⟩:Chg),y.gone=true/\y.k.length<=139/\y.v= []):
 (z1e (z3z last cap at_ rows)).length<=7000:=by
 have e1:=z1n (cap:=cap) (at_:=at_) rows 0;have e2:=z5Y (cap:=cap) (at_:=at_) rows (yU cap);have hl:(z3z last cap at_ rows).length<=11:=by unfold z3z;rw [y8,yw];omega
 have h4:=z6k (l:=z3z last cap at_ rows) fun y hy=>by
  unfold z3z at hy;rcases y9.1 hy with rfl|hy
  .exact(hps _ (yJ.2 rfl)).2.2
  .obtain⟨h1,h2,h3⟩:=hds y hy;rw [h3,yW];omega
 have h5:(z0C (z3z last cap at_ rows).length).length<=10:=z09 (by unfold U64;omega);unfold z1e;rw [y6];omega
theorem zEE(x:Vx w W gv gs g gl Z P c l N rows tl last hor)(hN:N<=90)(at_:Nat)(h1:hor<=at_)(h2:at_<=last)(many:Int)(hm: -9223372036854775808<=many/\many<=9223372036854775807){pg:Nat}(hpg:gv=pg):
 Calls prog 15 #[.pointer (some ⟨pg,0,none⟩),.int .u64 (at_:Int),.int .i64 many] W fun e W'=>∃er n:Nat,e= .returned (.tuple #[.int .i64 (n:Int),.int .i64 (er:Int)])/\(er=0->n=(z1k (z13 many) at_ rows 0).length)/\(er=0∨(er=141∨er=82)/\3<=N)/\
  ∃Z' P' l',Vx w W' gv gs g gl Z' P' c l' (N+1) (if er=0 then(z3W (z13 many) at_ rows 0).1 else rows) (if er=0 then [(ttlK,z62 last at_)]else tl) last (if er=0 then at_ else hor)/\Turn (fun b=>Z.has b∨b=gl∨b=gv) W W'/\∀b,Z'.has b->Z.has b∨W.heap.size<=b:=by
 have hln:=x.ln;have hlU:last<U64:=by unfold U64;omega
 have haU:at_<U64:=by omega
 have hcells:=z8z x.ok x.tok last (z13 many) at_;have hps:∀y∈ [(⟨ttlK,z62 last at_,false⟩:Chg)],y.gone=false/\y.k.length<=139/\y.k.length+y.v.length<=480:=z58 (at_:=last) (hor:=at_) hlU haU (ws:= []) (fun y hy=>by cases hy);have hds:=zEh (cap:=z13 many) (at_:=at_) x.ok;have hrun:z3s P (z3z last (z13 many) at_ rows)=0->∀D',ChRuns QV c (P.on D') (vwC rows tl) (z3z last (z13 many) at_ rows)/\VT (chgsP c (P.on D') (vwC rows tl) (z3z last (z13 many) at_ rows)) c (z2P (vwC rows tl) (z3z last (z13 many) at_ rows)):=
  fun hm D'=>zGf x.s.tree hps (fun y hy=>(hds y hy).1) hm D'
 have hbd:∀y∈z3z last (z13 many) at_ rows,y.k.length<=65536/\y.v.length<=65536:=fun y hy=>by
  unfold z3z at hy;rcases y9.1 hy with rfl|hy
  .have:=hps _ (yJ.2 rfl);exact⟨by omega,by omega⟩
  .obtain⟨-,h4,h5⟩:=hds y hy;rw [h5];exact⟨by omega,by simp⟩
 have hcl:(z3z last (z13 many) at_ rows).length<=1000000:=by
  have e1:=z1n (cap:=z13 many) (at_:=at_) rows 0;have e2:=z5Y (cap:=z13 many) (at_:=at_) rows (yU (z13 many));have e3:=z6g many;unfold z3z;rw [y8,yw];omega
 have hsh:=zA3 (last:=last) (cap:=z13 many) (at_:=at_) (z6g many) hps hds;obtain⟨lv,sv,hlv⟩:=x.s.s.lg;have hgl:=hlv.lb.lt;have hgvgl:gv≠gl:=Blk.ne x.blk hlv.lb (by decide);have hzgv:¬Z.has gv:=Pz.not_kind x.s.s.T.pg (z0I x.blk) (by decide) (by decide) (by decide) (by decide);refine(zAp (x.vv hN) (x.few hN) hlU at_ h1 h2 many hm
  (fun er w'=>(er=0∨(er=141∨er=82)/\3<=N)/\∃Z' P' l',Sy w w' gs g gl Z' P' c l' (N+1) (if er=0 then z2P (vwC rows tl) (z3z last (z13 many) at_ rows)else vwC rows tl)/\BitsOk w'/\Turn (fun b=>Z.has b∨b=gl) W w'/\∀b,Z'.has b->Z.has b∨W.heap.size<=b)
  (fun er w1 w2 hb ⟨hq,Z',P',l',hs,hbt,ht,hz⟩=>⟨hq,Z',P',l',hs.later hb,hbt.later hb,ht.trans (Turn.of_below hb) fun b h=> .inl h,hz⟩)
  (fun wg v1 hwg hch=> ?_) hpg).mono ?_
 .have hsg:=x.s.later hwg;refine(zCu hsg v1 (cs:=z3z last (z13 many) at_ rows) (by
   exact Sl.more hch fun b hb=>⟨fun e=>by have:=x.s.s.T.pg.lt e;omega,by omega⟩) hcl hbd hrun (fun _ _ _=>zJL zDu) hsh hN rfl).mono ?_
  rintro e w' ⟨n,er,he,her,Z',P',l',hsy,hop⟩;have ht:Turn (fun b=>Z.has b∨b=gl) W w':=(Turn.of_below hwg).trans hop.turn fun b hb=> .inl hb
  have her2:er=0∨(er=141∨er=82)/\3<=N:=by
   have hpg:=x.s.pages;rcases her with h|h|h
   .exact .inl h
   .rcases zBA (P:=P) (hl11:=by have:=z1n (cap:=z13 many) (at_:=at_) rows 0;have:=z5Y (cap:=z13 many) (at_:=at_) rows (yU (z13 many));have:=z6g many;omega) hps hds with h2|h2
    .exact .inl (h.trans h2)
    .exact .inr ⟨.inl (h.trans h2.1),by omega⟩
   .exact .inr ⟨.inr h.1,by omega⟩
  exact⟨n,er,he,⟨her2,Z',P',l',hsy,hsy.s.T.bits,ht,fun b hb=>(hop.has b hb).imp id fun h=>yD hwg.size h⟩,x.blk.turn ht (by rintro(h|h);exact hzgv h;exact hgvgl h),hop.turn.mono fun b hb _=>by
   rcases hb with hb|hb
   .exact x.s.s.T.pg.lt hb
   .have hb2:b=gl:=hb;omega⟩
 .rintro e W' ⟨er,w1,⟨her,Z',P',l',hsy,hbits,htu,hhas⟩,hblk,hne,hz⟩;by_cases h0:er=0
  .subst h0;obtain⟨rfl,rfl⟩:=hz rfl;rw [yB rfl]at hsy;rw [hcells]at hsy;refine⟨0,_,rfl,fun _=>rfl,.inl rfl,Z',P',l',?_,?_,hhas⟩
   .rw [yB rfl,yB rfl,yB rfl];have hgv0:gv≠0:=by have:=x.gvn;have:=x.pos;omega
    have hb2:=hblk.put 2 (.int .u64 (at_:Int));have hS:=hsy.s.put hblk hgv0 2 (.int .u64 (at_:Int));exact⟨⟨hS,hsy.tree,hsy.tb,hsy.new,hsy.gsn,hsy.gn,hsy.gln,hsy.below.setCell x.gvn _,hsy.size,hsy.pend,hsy.len,hsy.lk⟩,hb2,x.gvn,x.pos,hS.T.bits,zB9 x.ok,.inr ⟨_,rfl⟩,zDK x.under,h2,by omega⟩
   .exact(htu.mono fun b hb _=>hb.elim .inl fun h=> .inr (.inl h)).setCell (.inl (.inr (.inr rfl))) _
  .obtain⟨rfl,rfl⟩:=hne h0;rw [yA h0]at hsy;refine⟨er,0,rfl,fun h=>absurd h h0,her,Z',P',l',?_,htu.mono fun b hb _=>hb.elim .inl fun h=> .inr (.inl h),hhas⟩;rw [yA h0,yA h0,yA h0];exact⟨hsy,hblk,x.gvn,x.pos,hbits,x.ok,x.tok,x.under,x.hl,by omega⟩
end
end
section
open Go Tryz
def z82(vs:List Vsn)(t:Nat):Option (List UInt8):=if z1D vs (z0O vs t)then(vs[z0O vs t-1]?).map (·.v)else none
theorem z3D(vs:List Vsn):z1D vs 0=false:=by
 unfold z1D
 split<;>rfl
theorem z4h{vs:List Vsn}{d i:Nat}(h:d<i):z1D (vs.drop d) (i-d)=z1D vs i:=by
 unfold z1D;rw [Yj,show d+(i-d-1)=i-1 by omega];cases vs[i-1]? with
 |none=>rfl
 |some x=>simp only [yq (show 0<i-d by omega),yq (show 0<i by omega)]
def z2x(rows:List Rw)(t:Nat):List Cel:=rows.filterMap fun r=>(z82 r.vs t).map fun v=>(r.k,v)
theorem zCw:∀ {vs:List Vsn},z5u vs->∀ (t:Nat),vs.filter (fun x=>decide (x.t<=t))=vs.takeWhile fun x=>decide (x.t<=t)
 | [],_,t=>rfl
 |x::vs,h,t=>by
  obtain⟨h1,h2⟩:=yh.1 h;rw [Yf,Y0];by_cases hx:x.t<=t
  .rw [yB (by simpa using hx),yB (by simpa using hx),zCw h2]
  .rw [yA (by simpa using hx),yA (by simpa using hx),YX];intro y hy;have:=h1 y hy;simp only [yd];omega
theorem z7S{l:List Rw}(h:RowsOk l)(key:List UInt8):z5u (z1Y l key):=by
 unfold z1Y
 split
 .rename_i r hr;exact(h.rw r (yr hr)).asc
 .exact List.Pairwise.nil
theorem at_range{l:List Rw}(h:RowsOk l){tl:List Cel}(ht:zEK tl){key:List UInt8}{t:Nat}(ha:t<U64):
 z34 (vwC l tl) (z10 key t) (z10 key 0++ [0]) false 1=match(z1Y l key)[z0O (z1Y l key) t-1]? with
  |some x=>if 0<z0O (z1Y l key) t then [z7s key x]else []
  |none=> []:=by
 unfold z34 zJh;rw [yA (by omega),show(1:Int).toNat=1 from rfl,zAH h ht ha,zCw (z7S h key)];have hp:(z1Y l key).takeWhile (fun x=>decide (x.t<=t))=(z1Y l key).take (z0O (z1Y l key) t):=List.prefix_iff_eq_take.1 (List.takeWhile_prefix _);rw [hp];have hle:=z3F (z1Y l key) t;generalize z1Y l key=vs at*;generalize z0O vs t=a at*;cases a with
 |zero=>
  rw [ZS]
  split
  .rfl
  .rfl
 |succ k=>
  have hk:k<vs.length:=by omega
  rw [YS,yK hk,yO hk,QQ];rfl
theorem zHB{l:List Rw}(h:RowsOk l){tl:List Cel}(ht:zEK tl){key:List UInt8}{t:Nat}(ha:t<U64):
 (z34 (vwC l tl) (z10 key t) (z10 key 0++ [0]) false 1= []/\z82 (z1Y l key) t=none)∨
 ∃x∈z1Y l key,z34 (vwC l tl) (z10 key t) (z10 key 0++ [0]) false 1= [z7s key x]/\z82 (z1Y l key) t=if x.gone then none else some x.v:=by
 rw [at_range h ht ha];unfold z82 z1D;cases hx:(z1Y l key)[z0O (z1Y l key) t-1]? with
 |none=>exact .inl ⟨rfl,rfl⟩
 |some x=>
  simp only;by_cases h0:0<z0O (z1Y l key) t
  .refine .inr ⟨x,List.mem_of_getElem? hx,by rw [yB h0],?_⟩;by_cases hg:x.gone=true
   .simp [h0,hg]
   .simp [h0,hg]
  .left;rw [yA h0];simp [h0]
theorem z4j:∀ {vs:List Vsn} {t d:Nat},d<=z0O vs t->z0O (vs.drop d) t=z0O vs t-d
 |vs,t,0,_=>rfl
 | [],t,d+1,h=>by simp [z0O]at h
 |x::vs,t,d+1,h=>by
  unfold z0O at h ⊢;rw [Y0]at h ⊢;by_cases hx:x.t<=t
  .rw [yB (by simpa using hx),y8]at h ⊢;have:=z4j (vs:=vs) (t:=t) (d:=d) (by unfold z0O;omega);unfold z0O at this;rw [Yr,this];omega
  .rw [yA (by simpa using hx)]at h;simp at h
theorem z6a:∀ (vs:List Vsn) {a b:Nat},a<=b->z0O vs a<=z0O vs b
 | [],a,b,_=>y5 _
 |x::vs,a,b,h=>by
  have ih:=z6a vs h;unfold z0O at ih ⊢;rw [Y0,Y0];by_cases hx:x.t<=a
  .rw [yB (by simpa using hx),yB (by simp;omega),y8,y8];omega
  .rw [yA (by simpa using hx)];exact yU _
theorem z6p(vs:List Vsn)(t:Nat):z0s vs t<=z0O vs t:=by
 unfold z0s
 split<;>omega
theorem zGZ{vs:List Vsn}{at_ t d:Nat}(hd:d<=z0s vs at_)(ht:at_<=t):z82 (vs.drop d) t=z82 vs t:=by
 have h1:=z6p vs at_;have h2:=z6a vs ht;have h3:=z3F vs t;unfold z82;rw [z4j (show d<=z0O vs t by omega)];by_cases h:d<z0O vs t
 .rw [z4h h,Yj,show d+(z0O vs t-d-1)=z0O vs t-1 by omega]
 .have e0:z0s vs at_=z0O vs at_:=by omega
  have e2:z0O vs at_=z0O vs t:=by omega
  have hl:z1D vs (z0O vs t)=false:=by
   rw [<-e2];unfold z0s at e0
   split at e0
   .rename_i hl;rw [show z0O vs at_=0 by omega,z3D]at hl;cases hl
   .rename_i hl;simpa using hl
  rw [show z0O vs t-d=0 by omega,z3D,hl];rfl
theorem z9Y{cap at_ t:Nat}(ht:at_<=t):∀ (l:List Rw) (n:Nat),z2x (z3W cap at_ l n).1 t=z2x l t
 | [],n=>rfl
 |r::l,n=>by
  have ih:=z9Y (cap:=cap) ht l (n+min (z0s r.vs at_) (cap-n));have hv:=zGZ (vs:=r.vs) (at_:=at_) (t:=t) (d:=min (z0s r.vs at_) (cap-n)) (by omega) ht;rw [z3W];unfold z2x at ih ⊢;rw [List.filterMap_append,ih,QR,<-hv]
  split
  .rename_i he;rw [he];rfl
  .rw [QR,List.filterMap_nil];simp only;cases z82 (r.vs.drop (min (z0s r.vs at_) (cap-n))) t<;>rfl
theorem z8G{cap at_:Nat}:∀ (l:List Rw) (n:Nat),(z0x (z3W cap at_ l n).1).length+(z1k cap at_ l n).length=(z0x l).length
 | [],n=>rfl
 |r::l,n=>by
  have ih:=z8G (cap:=cap) (at_:=at_) l (n+min (z0s r.vs at_) (cap-n));have e:∀ (a b:List Rw),z0x (a++b)=z0x a++z0x b:=fun a b=>by unfold z0x;rw [Yq]
  have e1:∀r:Rw,(z0x [r]).length=r.vs.length:=fun r=>by simp [z0x,rwC]
  have hd:=z5A r.vs at_;have hs:(z0x (if r.vs.drop (min (z0s r.vs at_) (cap-n))= []then []else [(⟨r.k,r.vs.drop (min (z0s r.vs at_) (cap-n))⟩:Rw)])).length=r.vs.length-min (z0s r.vs at_) (cap-n):=by
   split
   .rename_i he;have:=congrArg List.length he;rw [yI]at this;rw [this];rfl
   .rw [e1];simp
  have hc:(z0x (r::l)).length=r.vs.length+(z0x l).length:=by
   rw [show r::l= [r]++l from rfl,e,y6,e1]
  rw [z3W,z1k,hc];simp only;rw [e,y6,y6,yw,yC,hs];omega
theorem zDN(vs:List Vsn)(at_:Nat):z0s (vs.drop (z0s vs at_)) at_=0:=by
 have ha:=z4j (z6p vs at_);have h1:=z3F vs at_;generalize hD:z0s vs at_=D at*;unfold z0s;unfold z0s at hD
 split at hD
 .rename_i hl;have h0:0<z0O vs at_:=by
   rcases Y3 (z0O vs at_)with e|e
   .rw [e,z3D]at hl;cases hl
   .exact e
  rw [ha,z4h (by omega),hl];simp only [YN];omega
 .rw [ha]
  split<;>omega
theorem z6E{cap at_:Nat}:∀ {l:List Rw} {n:Nat},(z3W cap at_ l n).2<cap->∀r∈(z3W cap at_ l n).1,z0s r.vs at_=0
 | [],n,_,r,hr=>by cases hr
 |q::l,n,h,r,hr=>by
  rw [z3W]at h hr;simp only at h hr;have hn:n+min (z0s q.vs at_) (cap-n)<cap:=by
   have:=z1n (cap:=cap) (at_:=at_) l (n+min (z0s q.vs at_) (cap-n));omega
  rcases yF.1 hr with hr|hr
  .split at hr
   .cases hr
   .obtain rfl:=yJ.1 hr;rw [show min (z0s q.vs at_) (cap-n)=z0s q.vs at_ by omega];exact zDN _ _
  .exact z6E h r hr
theorem zA2{cap at_:Nat}:∀ {l:List Rw} (n:Nat),(∀r∈l,z0s r.vs at_=0)->z1k cap at_ l n= []
 | [],n,_=>rfl
 |r::l,n,h=>by
  rw [z1k,h r (by simp),Nat.zero_min,YQ,zA2 n fun q hq=>h q (by simp [hq])];rfl
theorem zA7{vs:List Vsn}(hr:z5u vs){at_:Nat}(h:z0s vs at_=0):z0O vs at_<=1/\∀k (hk:k<vs.length),(vs[k].t<=at_↔k<z0O vs at_)/\(k<z0O vs at_->vs[k].gone=false):=by
 unfold z0s at h
 split at h
 .rename_i hl;refine⟨by omega,fun k hk=>⟨(z4H hr hk).symm,fun h2=> ?_⟩⟩;obtain rfl:k=z0O vs at_-1:=by omega
  unfold z1D at hl;rw [yK hk]at hl;simp at hl;exact hl.2
 .exact⟨by omega,fun k hk=>⟨(z4H hr hk).symm,fun h2=>by omega⟩⟩
end
section
open Go Go.RowKit Tryz
def zAe(o:Option (List UInt8)):Value:= .tuple #[.string (st (o.getD [])),.bool o.isSome]
theorem zAq{w:World}{gv gs g:Nat}{l:List Rw}{tl:List Cel}{last hor:Nat}(h:Vv w gv gs g l tl last hor)(key:List UInt8)(hk:key.length<=9223372036854775807)(t:Nat)(ht:t<U64){pg:Nat}(hpg:gv=pg):
 Calls prog 49 #[.pointer (some ⟨pg,0,none⟩),.string (st key),.int .u64 (t:Int)] w fun e w'=>e= .returned (zAe (z82 (z1Y l key) t))/\Below w.heap.size w w':=by
 subst hpg;by_cases h64:64<key.length
 .have hn:z82 (z1Y l key) t=none:=by
   cases hv:z1Y l key with
   |nil=>rfl
   |cons x r=>
    have:=(z7g h.ok (key:=key) (x:=x) (by rw [hv];simp)).2;omega
  have e1:decide ((64:Int)<(key.length:Int))=true:=by rw [yd];omega
  rw [hn];clear h hn;go_enter func49,ntmps49
  go_wp2_with fail
  go_ret2
  exact⟨rfl,y7 _ _⟩
 .have e1:decide ((64:Int)<(key.length:Int))=false:=by rw [yj];omega
  have hk64:key.length<=64:=by omega
  have HT:Hid (∀wg,Below w.heap.size w wg->Calls prog 42 #[.string (st key),.int .u64 (t:Int)] wg fun e w'=>e= .returned (.string (st (z10 key t)))/\Below wg.heap.size wg w'):=fun wg hwg=>z2C key t wg (h.bits.later hwg) hk64 ht
  have HBY:Hid (∀wg,Below w.heap.size w wg->Calls prog 42 #[.string (st key),.int .u64 0] wg fun e w'=>e= .returned (.string (st (z10 key 0)))/\Below wg.heap.size wg w'):=fun wg hwg=>z2C key 0 wg (h.bits.later hwg) hk64 z64
  have hd0:=z3a 0 hk64;have hR:=zHB h.ok h.tok (key:=key) ht;have HVP:Hid (∀x∈z1Y l key,∀wg,Calls prog 53 #[.agg #[.string (st (z10 key x.t)),.string (st (z90 x))]] wg fun e w'=>e= .returned (.tuple #[.string (st key),zH3 x,.bool true])/\Below wg.heap.size wg w'):=fun x hx wg=>z5q key x wg hk64 (z7g h.ok hx).1
  have HVG:Hid (∀x∈z1Y l key,x.gone=true->x.v= []):=fun x hx=>(z7g h.ok hx).1.g
  obtain⟨s1,s2,hs⟩:=h.sto;have b0:w.cell? ⟨gv,0,none⟩=some (.pointer (some ⟨gs,0,none⟩)):=h.blk.cell 0;have b1:w.cell? ⟨gs,0,none⟩=some (.pointer (some ⟨g,0,none⟩)):=hs.cell 0;have HVR:Hid (∀R,z34 (vwC l tl) (z10 key t) (z10 key 0++ [0]) false 1=R->∀wg,Below w.heap.size w wg->Calls prog 51 #[.pointer (some ⟨g,0,none⟩),.agg #[.string (st (z10 key t)),.string (st (z10 key 0++ [0])),.bool false,.bool false,.int .i64 1]] wg fun e w'=>∃v,e= .returned v/\Below wg.heap.size wg w'/\VCv R v w'):=fun R hR wg hwg=>h.range hwg _ _ 1 hR
  obtain⟨F,hF⟩:∃F,z10 key t=F:=⟨_,rfl⟩;obtain⟨T0,hT⟩:∃T,z10 key 0=T:=⟨_,rfl⟩;rw [hF,hT]at hR HVR;rw [hF]at HT;rw [hT]at HBY hd0;have a1:¬9223372036854775807<T0.length+1:=by omega
  clear h hs hF hT hd0;rcases hR with⟨hR,hv⟩|⟨x,hx,hR,hv⟩
  .have HRG:=zz (HVR.out _ hR);rw [hv];clear hR hv HVR HVP HVG;go_enter func49,ntmps49
   go_wp2_with fail
   refine z06 (by kernel_rfl) (by kernel_rfl) ?_;apply Exists.intro;apply And.intro
   .repeat(first
     |(apply z0J rfl
       intro K hK;go_simp;refine hK _ ?_;clear hK K)
     |(apply z0D rfl
       .intro wg hwg _;have b0':=yN hwg b0;have b1':=yN hwg b1;unfold z03;go_simp
        first
         |exact z00 _ _
       intro K hK;go_simp;refine hK _ ?_;clear hK K))
    apply z0D rfl
    .intro wg hwg _;unfold z03;go_simp;exact z0Z (HT.out wg hwg)
    intro K hK;go_simp;refine hK _ ?_;clear hK K
    repeat(first
     |(apply z0J rfl
       intro K hK;go_simp;refine hK _ ?_;clear hK K)
     |(apply z0D rfl
       .intro wg hwg _
        skip
        unfold z03;go_simp
        first
         |exact z00 _ _
       intro K hK;go_simp;refine hK _ ?_;clear hK K))
    apply z0D rfl
    .intro wg hwg _;unfold z03;go_simp;exact z0Z (HBY.out wg hwg)
    intro K hK;go_simp;refine hK _ ?_;clear hK K
    repeat(first
     |(apply z0J rfl
       intro K hK;go_simp;refine hK _ ?_;clear hK K)
     |(apply z0D rfl
       .intro wg hwg _
        skip
        unfold z03;go_simp
        first
         |exact z00 _ _
       intro K hK;go_simp;refine hK _ ?_;clear hK K))
    apply z1N (V:=VCv []) rfl
    .intro wg hwg hf;unfold z03;go_simp;refine⟨y7 _ _,?_⟩;exact HRG.out wg hwg
    intro xv hxv K hK;obtain⟨wx,_,hbx⟩:=hxv;have hbo:=hbx;obtain⟨A10,c10,rfl,hc10⟩:=hbo;go_simp;refine hK _ ?_;clear hK K hbx;apply z1N (V:=VCv []) rfl
    .intro wg hwg hf;have hcb:VCv [] (.slice A10 ([]:List Cel).length c10) wg:=hf ⟨14,.data⟩ (by simp) rfl _ _ (by kernel_rfl);unfold z03;go_simp;exact⟨y7 _ _,hcb⟩
    intro xv hxv K hK;obtain⟨wx,_,hbx⟩:=hxv;have hbo:=hbx;obtain⟨A11,c11,rfl,hc11⟩:=hbo;go_simp;refine hK _ ?_;clear hK K hbx;refine z0f (fun wg hwg _=> ?_);have HB:=zz hwg;clear hwg hc10 hc11;go_wp2_with fail
    go_ret2
    exact⟨rfl,HB.out⟩
   .apply And.intro
    .repeat(first|exact trivial|(refine⟨Stays.is _,?_⟩)|(refine⟨VCv.stays _,?_⟩))
    .rfl
  .have HPC:=zz (HVP.out x hx);have hg:=HVG.out x hx;have hdc:z7s key x=(z10 key x.t,z90 x):=rfl;rw [hdc]at hR;have HVL:Hid (zAe (z82 (z1Y l key) t)= .tuple #[.string (st x.v),.bool (!x.gone)]):=by
    rw [Hid,hv];unfold zAe;cases hgn:x.gone with
    |true=>rw [hg hgn];rfl
    |false=>rfl
   obtain⟨kb,hkb⟩:∃kb,z10 key x.t=kb:=⟨_,rfl⟩;obtain⟨vb,hvb⟩:∃vb,z90 x=vb:=⟨_,rfl⟩;rw [hkb,hvb]at hR HPC;have HRG:=zz (HVR.out _ hR);obtain⟨xt,xv,xg⟩:=x;unfold zH3 at HPC;simp only at HPC HVL;clear hR hv HVR HVP HVG hg hdc hkb hvb hx;go_enter func49,ntmps49
   go_wp2_with fail
   refine z06 (by kernel_rfl) (by kernel_rfl) ?_;apply Exists.intro;apply And.intro
   .repeat(first
     |(apply z0J rfl
       intro K hK;go_simp;refine hK _ ?_;clear hK K)
     |(apply z0D rfl
       .intro wg hwg _;have b0':=yN hwg b0;have b1':=yN hwg b1;unfold z03;go_simp
        first
         |exact z00 _ _
       intro K hK;go_simp;refine hK _ ?_;clear hK K))
    apply z0D rfl
    .intro wg hwg _;unfold z03;go_simp;exact z0Z (HT.out wg hwg)
    intro K hK;go_simp;refine hK _ ?_;clear hK K
    repeat(first
     |(apply z0J rfl
       intro K hK;go_simp;refine hK _ ?_;clear hK K)
     |(apply z0D rfl
       .intro wg hwg _
        skip
        unfold z03;go_simp
        first
         |exact z00 _ _
       intro K hK;go_simp;refine hK _ ?_;clear hK K))
    apply z0D rfl
    .intro wg hwg _;unfold z03;go_simp;exact z0Z (HBY.out wg hwg)
    intro K hK;go_simp;refine hK _ ?_;clear hK K
    repeat(first
     |(apply z0J rfl
       intro K hK;go_simp;refine hK _ ?_;clear hK K)
     |(apply z0D rfl
       .intro wg hwg _
        skip
        unfold z03;go_simp
        first
         |exact z00 _ _
       intro K hK;go_simp;refine hK _ ?_;clear hK K))
    apply z1N (V:=VCv [(kb,vb)]) rfl
    .intro wg hwg hf;unfold z03;go_simp;refine⟨y7 _ _,?_⟩;exact HRG.out wg hwg
    intro xv hxv K hK;obtain⟨wx,_,hbx⟩:=hxv;have hbo:=hbx;obtain⟨A10,c10,rfl,hc10⟩:=hbo;go_simp;refine hK _ ?_;clear hK K hbx;apply z1N (V:=VCv [(kb,vb)]) rfl
    .intro wg hwg hf;have hcb:VCv [(kb,vb)] (.slice A10 [(kb,vb)].length c10) wg:=hf ⟨14,.data⟩ (by simp) rfl _ _ (by kernel_rfl);unfold z03;go_simp;exact⟨y7 _ _,hcb⟩
    intro xv hxv K hK;obtain⟨wx,_,hbx⟩:=hxv;have hbo:=hbx;obtain⟨A11,c11,rfl,hc11⟩:=hbo;go_simp;refine hK _ ?_;clear hK K hbx;refine z0f (fun wg hwg hf=> ?_);have HB:=zz hwg;obtain⟨A13,c13,he13,hc13⟩:VCv [(kb,vb)] (.slice A11 [(kb,vb)].length c11) wg:=hf 15 _ _ rfl;injection he13 with hA13 _ hc13'
    subst hA13 hc13';obtain⟨A12,c12,hv12,-,-,-,hA12⟩:=hc13.at;injection hv12 with hA12' _ _
    subst hA12';obtain⟨b,o,rfl,hbs,hcell⟩:=hA12 (by simp);have k0:wg.cell? ⟨b,o,none⟩=some (.string (st kb)):=(hcell 0 (by simp)).1;have k1:wg.cell? ⟨b,o+1,none⟩=some (.string (st vb)):=(hcell 0 (by simp)).2;clear hwg hf hc10 hc11 hc13 hA12 hcell;go_wp2_with fail
    refine(HPC.out wg).mono ?_;rintro e w2 ⟨rfl,hb2⟩;have hq2:=HB.out.trans (hb2.mono HB.out.size);have HB2:=zz (hq2.alloc hq2.size (.cells #[.int .u64 (xt:Int),.string (st xv),.bool xg] 62));have HX:=zz (Blk.new w2 62 #[.int .u64 (xt:Int),.string (st xv),.bool xg]);clear hb2 hq2;go_upto_region 7 with(fail)
    generalize hW:w2.alloc (.cells #[.int .u64 (xt:Int),.string (st xv),.bool xg] 62)=W at*;clear hW;generalize w2.heap.size=gx at*;have x1:W.cell? ⟨gx,1,none⟩=some (.string (st xv)):=HX.out.cell 1;have x2:W.cell? ⟨gx,2,none⟩=some (.bool xg):=HX.out.cell 2;go_wp2_with fail
    refine z06 (by kernel_rfl) (by kernel_rfl) ?_;apply Exists.intro;apply And.intro
    .repeat(first
      |(apply z0J rfl
        intro K hK;go_simp;refine hK _ ?_;clear hK K)
      |(apply z0D rfl
        .intro wg hwg _;have x1':=yN hwg x1;have x2':=yN hwg x2;unfold z03;go_simp
         first
          |exact z00 _ _
        intro K hK;go_simp;refine hK _ ?_;clear hK K))
     refine z0f (fun wg hwg _=> ?_);have HB3:=zz (HB2.out.trans (hwg.mono HB2.out.size));clear hwg;go_wp2_with fail
     go_ret2
     exact⟨by rw [HVL.out];rfl,HB3.out⟩
    .apply And.intro
     .repeat(first|exact trivial|(refine⟨Stays.is _,?_⟩)|(refine⟨Stays.bs _,?_⟩)|(refine⟨Stays.pg _ _ _,?_⟩))
     .rfl
   .apply And.intro
    .repeat(first|exact trivial|(refine⟨Stays.is _,?_⟩)|(refine⟨VCv.stays _,?_⟩))
    .rfl
end
end Go.Proofs.YthnlcbamjehpdaaGreatDoor
