/- Part 47. -/
import Derived.Test.YthnlcbamjehpdaaGreatDoorViewCollectsJ46
namespace Go.Proofs.YthnlcbamjehpdaaGreatDoor
set_option linter.unusedVariables false
set_option maxHeartbeats 16000000
set_option maxRecDepth 100000
section
open Go Go.RowKit Tryz
def Vz(w W:World)(gv gs g gl N:Nat)(rows:List Rw)(last hor:Nat)(S:Nat->Prop):Prop:=
 ∃Z P l tl,Vx w W gv gs g gl Z P (fun _=> []) l N rows tl last hor/\∀b,S b->b<W.heap.size/\¬ (Z.has b∨b=gl∨b=gv)
section
variable {w W W':World} {gv gs g gl N:Nat} {rows:List Rw} {last hor:Nat} {S:Nat->Prop}
theorem Vz.later(x:Vz w W gv gs g gl N rows last hor S)(hb:Below W.heap.size W W'):Vz w W' gv gs g gl N rows last hor S:=by
 obtain⟨Z,P,l,tl,x,h⟩:=x;exact⟨Z,P,l,tl,x.later hb,fun b hS=>⟨yE (h b hS).1 hb.size,(h b hS).2⟩⟩
theorem Vz.below(x:Vz w W gv gs g gl N rows last hor S):Below w.heap.size w W:=by
 obtain⟨Z,P,l,tl,x,-⟩:=x;exact x.s.below
theorem Vz.lasts(x:Vz w W gv gs g gl N rows last hor S):hor<=last/\last<=N:=by
 obtain⟨Z,P,l,tl,x,-⟩:=x;exact⟨x.hl,x.ln⟩
theorem Vz.ok(x:Vz w W gv gs g gl N rows last hor S):RowsOk rows:=by
 obtain⟨Z,P,l,tl,x,-⟩:=x;exact x.ok
theorem Vz.cells(x:Vz w W gv gs g gl N rows last hor S):(z0x rows).length<=11*N:=by
 obtain⟨Z,P,l,tl,x,-⟩:=x;have:=x.s.len;unfold vwC at this;rw [y6]at this;omega
theorem Vz.vv(x:Vz w W gv gs g gl N rows last hor S)(hN:N<=90):∃tl,Vv W gv gs g rows tl last hor:=by
 obtain⟨Z,P,l,tl,x,-⟩:=x;exact⟨tl,x.vv hN⟩
theorem Vz.blk(x:Vz w W gv gs g gl N rows last hor S):Blk W gv 99 #[.pointer (some ⟨gs,0,none⟩),.int .u64 (last:Int),.int .u64 (hor:Int)]:=by
 obtain⟨Z,P,l,tl,x,-⟩:=x;exact x.blk
theorem Vz.keep(x:Vz w W gv gs g gl N rows last hor S)(hb:Below W.heap.size W W'):Vz w W' gv gs g gl N rows last hor fun b=>W.heap.size<=b/\b<W'.heap.size:=by
 obtain⟨Z,P,l,tl,x,-⟩:=x;obtain⟨lv,sv,hlv⟩:=x.s.s.lg;have h1:=hlv.lb.lt;have h2:=x.blk.lt;refine⟨Z,P,l,tl,x.later hb,fun b hb=>⟨hb.2,fun e=> ?_⟩⟩;rcases e with e|e|e
 .have:=x.s.s.T.pg.lt e;omega
 .omega
 .omega
theorem Vx.more{Z:Pz}{P:Pgr}{c:Int->List UInt8}{l:Wl}{tl:List Cel}{M:Nat}(x:Vx w W gv gs g gl Z P c l N rows tl last hor)(h:N<=M):Vx w W gv gs g gl Z P c l M rows tl last hor:=by
 obtain⟨⟨a1,a2,a3,a4,a5,a6,a7,a8,a9,a10,a11,a12⟩,b,c1,d,e,f,g1,h1,i,j⟩:=x;exact⟨⟨a1,a2,a3,a4,a5,a6,a7,a8,a9,by omega,by omega,a12.more h⟩,b,c1,d,e,f,g1,h1,i,by omega⟩
theorem Vz.turned{Z Z':Pz}{P':Pgr}{l':Wl}{tl':List Cel}{rows':List Rw}{last' hor':Nat}(hS:∀b,S b->b<W.heap.size/\¬ (Z.has b∨b=gl∨b=gv))
 (x:Vx w W' gv gs g gl Z' P' (fun _=> []) l' N rows' tl' last' hor') (ht:Turn (fun b=>Z.has b∨b=gl∨b=gv) W W') (hz:∀b,Z'.has b->Z.has b∨W.heap.size<=b):
 Vz w W' gv gs g gl N rows' last' hor' S/\(∀b,S b->W'.heap[b]? =W.heap[b]?)/\W.heap.size<=W'.heap.size:=
 ⟨⟨Z',P',l',tl',x,fun b hb=>⟨yE (hS b hb).1 ht.size,fun e=>by
   rcases e with e|e
   .rcases hz b e with e|e
    .exact(hS b hb).2 (.inl e)
    .have:=(hS b hb).1;omega
   .exact(hS b hb).2 (.inr e)⟩⟩,fun b hb=>ht.block b (hS b hb).1 (hS b hb).2,ht.size⟩
theorem z7h(x:Vz w W gv gs g gl N rows last hor S)(hN:N<=90)(S0:Nat->Prop)(v0:Value)(ws:List Wri)(hr:Wrs S0 W v0 ws)(hs:∀x∈ws,x.v.length<=9223372036854775807/\x.k.length<=9223372036854775807){pg:Nat}(hpg:gv=pg):
 Calls prog 16 #[.pointer (some ⟨pg,0,none⟩),.int .u64 ((last+1:Nat):Int),v0] W fun e W'=>∃er:Nat,e= .returned (.int .i64 (er:Int))/\(z5w ws=0->N<3->er=0)/\
  Vz w W' gv gs g gl (N+1) (if er=0 then z2f (last+1) rows ws else rows) (if er=0 then last+1 else last) hor S/\(∀b,S b->W'.heap[b]? =W.heap[b]?)/\W.heap.size<=W'.heap.size:=by
 obtain⟨Z,P,l,tl,x,hS⟩:=x;by_cases hc:z5w ws=0
 .refine(zGj x hN S0 v0 ws hr hc hpg).mono ?_;rintro e W' ⟨er,he,h1,Z',P',l',hx,ht,hz⟩;exact⟨er,he,fun _ h3=>h1.resolve_right fun h=>by omega,Vz.turned hS hx ht hz⟩
 .refine(zBu x.blk S0 v0 ws hr hs (by have:=x.ln;omega) hc hpg).mono ?_;rintro e W' ⟨he,hb⟩;refine⟨174,he,fun h=>absurd h hc,?_⟩;rw [yA (by decide),yA (by decide)];exact Vz.turned hS ((x.later hb).more (QM _)) (Turn.of_below hb) fun b h=> .inl h
theorem z4T(x:Vz w W gv gs g gl N rows last hor S)(hN:N<=90)(at_:Nat)(many:Int)(hm: -9223372036854775808<=many/\many<=9223372036854775807){pg:Nat}(hpg:gv=pg):
 Calls prog 15 #[.pointer (some ⟨pg,0,none⟩),.int .u64 (at_:Int),.int .i64 many] W fun e W'=>∃er n:Nat,e= .returned (.tuple #[.int .i64 (n:Int),.int .i64 (er:Int)])/\
  (er=0->hor<=at_/\at_<=last/\n=(z1k (z13 many) at_ rows 0).length)/\(er=0∨last<at_∨at_<hor∨er=141∨er=82)/\(hor<=at_->at_<=last->N<3->er=0)/\
  Vz w W' gv gs g gl (N+1) (if er=0 then(z3W (z13 many) at_ rows 0).1 else rows) last (if er=0 then at_ else hor) S/\(∀b,S b->W'.heap[b]? =W.heap[b]?)/\W.heap.size<=W'.heap.size:=by
 obtain⟨Z,P,l,tl,x,hS⟩:=x;by_cases hc:zAM last hor at_=0
 .have h12:hor<=at_/\at_<=last:=by
   unfold zAM at hc
   split at hc
   .cases hc
   .split at hc
    .cases hc
    .omega
  refine(zEE x hN at_ h12.1 h12.2 many hm hpg).mono ?_;rintro e W' ⟨er,n,he,hn,h1,Z',P',l',hx,ht,hz⟩;exact⟨er,n,he,fun h=>⟨h12.1,h12.2,hn h⟩,by rcases h1 with h|⟨h|h,_⟩<;>simp [h],fun _ _ h3=>h1.resolve_right fun h=>by omega,Vz.turned hS hx ht hz⟩
 .refine(zBs x.blk at_ many hc hpg).mono ?_;rintro e W' ⟨he,hb⟩;refine⟨zAM last hor at_,0,he,fun h=>absurd h hc,?_,fun h1 h2=>absurd (zFT h1 h2) hc,?_⟩
  .rcases zJn hc with h|h
   .exact .inr (.inl h)
   .exact .inr (.inr (.inl h))
  .rw [yA hc,yA hc];exact Vz.turned hS ((x.later hb).more (QM _)) (Turn.of_below hb) fun b h=> .inl h
end
theorem zBv{w:World}{gs g:Nat}{v1 v2:Value}(hs:Blk w gs 120 #[.pointer (some ⟨g,0,none⟩),v1,v2])(hrg:RgAt g [] w){ps:Nat}(hps:gs=ps):
 Calls prog 25 #[.pointer (some ⟨ps,0,none⟩)] w fun e w'=>∃gv,e= .returned (.tuple #[.pointer (some ⟨gv,0,none⟩),.int .i64 0])/\w.heap.size<=gv/\Blk w' gv 99 #[.pointer (some ⟨gs,0,none⟩),.int .u64 0,.int .u64 0]/\Below w.heap.size w w':=by
 subst hps;have q1:Below w.heap.size w (w.alloc (.cells #[.pointer (some ⟨gs,0,none⟩),.int .u64 0,.int .u64 0] 99)):=(y7 _ _).alloc (y5 _) _;have HB:=zz (Blk.new w 99 #[.pointer (some ⟨gs,0,none⟩),.int .u64 0,.int .u64 0]);have HS:=zz (hs.later q1);have HQ:=zz q1;have HR:Hid (Calls prog 51 #[.pointer (some ⟨g,0,none⟩),.agg #[.string (st []),.string (st []),.bool true,.bool false,.int .i64 (-1)]] (w.alloc (.cells #[.pointer (some ⟨gs,0,none⟩),.int .u64 0,.int .u64 0] 99)) (RangePost [] (w.alloc (.cells #[.pointer (some ⟨gs,0,none⟩),.int .u64 0,.int .u64 0] 99)))):=hrg _ [] [] true (-1) q1;clear hs hrg q1;go_enter func25,ntmps25
 go_upto_region 2 with(fail)
 generalize hW:w.alloc (.cells #[.pointer (some ⟨gs,0,none⟩),.int .u64 0,.int .u64 0] 99)=W at*;clear hW;have x0:W.cell? ⟨gs,0,none⟩=some (.pointer (some ⟨g,0,none⟩)):=HS.out.cell 0;have HG:Hid (w.heap.size<=w.heap.size):=y5 _;go_wp2_with fail
 refine HR.out.mono ?_;rintro e w2 ⟨A,c,rfl,-,hb2⟩;have HB2:=zz (HB.out.later hb2);have HQ2:=zz (HQ.out.trans (hb2.mono HQ.out.size));clear HR hb2 HB HS HQ x0;go_wp2_with fail
 go_ret2
 exact⟨w.heap.size,rfl,y5 _,HB2.out,HQ2.out⟩
theorem Sl.ofBlkN{S:Nat->Prop}{w:World}{g size:Nat}{t:TypeId}{xs:List Value}{n:Nat}(hb:Blk w g t xs.toArray)(hS:S g)(hn:xs.length=n*size)(hm:n<=maxLen):Sl S w size (.slice (some ⟨g,0,none⟩) n n) n xs:=by
 refine⟨hn,_,n,rfl,y5 _,hm,(fun h=>by cases h),fun _=>⟨g,0,rfl,hS,fun j u hu=> ?_⟩⟩;rw [Y4,hb.cell j,Zf];exact hu
theorem z2H{w:World}{gv:Nat}{u0:Value}{last hor:Nat}(hb:Blk w gv 99 #[u0,.int .u64 (last:Int),.int .u64 (hor:Int)]){pg:Nat}(hpg:gv=pg):
 Calls prog 17 #[.pointer (some ⟨pg,0,none⟩)] w fun e w'=>e= .returned (.int .u64 (last:Int))/\w'=w:=by
 subst hpg;have c1:w.cell? ⟨gv,1,none⟩=some (.int .u64 (last:Int)):=hb.cell 1;clear hb;go_enter func17,ntmps17
 go_wp2_with fail
 go_ret
 exact⟨rfl,rfl⟩
theorem z9k{w:World}{gv:Nat}{u0:Value}{last hor:Nat}(hb:Blk w gv 99 #[u0,.int .u64 (last:Int),.int .u64 (hor:Int)]){pg:Nat}(hpg:gv=pg):
 Calls prog 20 #[.pointer (some ⟨pg,0,none⟩)] w fun e w'=>e= .returned (.int .u64 (hor:Int))/\w'=w:=by
 subst hpg;have c1:w.cell? ⟨gv,2,none⟩=some (.int .u64 (hor:Int)):=hb.cell 2;clear hb;go_enter func20,ntmps20
 go_wp2_with fail
 go_ret
 exact⟨rfl,rfl⟩
theorem z3w(w:World):Calls prog 19 #[] w (fun e w'=>e= .returned (.agg #[.string (st []),.string (st []),.bool true,.bool false,.int .i64 (-1)])/\Below w.heap.size w w'):=by
 go_enter func19,ntmps19
 go_wp2_with fail
 refine bodyPost_ret (z0V rfl _ _ w.heap.size rfl (Blk.new w 57 #[.string (st []),.string (st []),.bool true,.bool false,.int .i64 (-1)]) ⟨⟨_,underlying57⟩,by kernel_rfl⟩) rfl ⟨rfl,(y7 _ _).alloc (y5 _) _⟩
theorem z6v(w:World)(hb:BitsOk w):
 Calls prog 12 #[] w fun e w'=>∃pd gv gs g gl,e= .returned (.tuple #[.pointer (some ⟨pd,0,none⟩),.pointer (some ⟨gs,0,none⟩),.pointer (some ⟨gv,0,none⟩)])/\Vz w w' gv gs g gl 0 [] 0 0 fun _=>False:=by
 have HB:=zz hb;have hpos:=hb.pos;clear hb;go_enter func12,ntmps12
 go_wp2_with fail
 refine(zHR 1000 w (by omega) (by omega)).mono ?_;rintro e w1 ⟨h,rfl,hd,hnew,hb1⟩;have HD:Hid (Dp w w1 h (Dsk.new 1000)):=⟨hd,hnew,hb1⟩;have HB1:=zz (HB.out.later hb1);clear hd hnew hb1;go_wp2_with fail
 refine(zG7 HD.out (fun _=> []) HB1.out hpos rfl).mono ?_;rintro e w2 ⟨gs,g,gl,Z,P,l,rfl,hx,-⟩;have HX:=zz hx;have HPO:Hid (0<w.heap.size):=hpos;clear hx HD HB1 HB hpos;go_wp2_with fail
 refine(zBv HX.out.s.blk (HX.out.range (by omega)) rfl).mono ?_;rintro e w3 ⟨gv,rfl,hgv,hbv,hb2⟩;have HX2:Hid (Vz w w3 gv gs g gl 0 [] 0 0 fun _=>False):=by
  have hs:=HX.out.later hb2;exact⟨Z,P,l,[],⟨hs,hbv,yD HX.out.below.size hgv,HPO.out,hs.s.T.bits,⟨fun r hr=>(by cases hr),List.Pairwise.nil⟩,.inl rfl,fun r hr=>(by cases hr),y5 _,y5 _⟩,fun b h=>h.elim⟩
 clear hbv hb2 hgv HX;go_wp2_with fail
 go_ret3
 exact⟨_,_,_,_,_,rfl,HX2.out⟩
def aw1:List Wri:= [⟨[97],[120],false⟩]
def aw2:List Wri:= [⟨[97],[],true⟩,⟨[98],[121],false⟩]
def ar1:List Rw:= [⟨[97],[⟨1,[120],false⟩]⟩]
def ar2:List Rw:= [⟨[97],[⟨1,[120],false⟩,⟨2,[],true⟩]⟩,⟨[98],[⟨2,[121],false⟩]⟩]
def ar3:List Rw:= [⟨[98],[⟨2,[121],false⟩]⟩]
theorem aw_1:z5w aw1=0/\z2f (0+1) [] aw1=ar1:=by decide
theorem aw_2:z5w aw2=0/\z2f (1+1) ar1 aw2=ar2:=by decide
theorem aw_3:z82 (z1Y ar2 [97]) 1=some [120]/\z82 (z1Y ar2 [97]) 2=none/\z2x ar2 2= [([98],[121])]:=by decide
theorem aw_4:(z1k (z13 10) 2 ar2 0).length=2/\(z3W (z13 10) 2 ar2 0).1=ar3/\(z1Y ar3 [98]).length=1:=by decide
theorem z6e(w:World)(hb:BitsOk w):Calls prog 13 #[] w fun e w'=>e= .returned (.bool true)/\Below w.heap.size w w':=by
 go_enter func13,ntmps13
 go_wp2_with fail
 refine(z6v w hb).mono ?_;rintro e w1 ⟨pd,gv,gs,g,gl,rfl,hx⟩;have HX:=zz hx;have HWN:Hid (∀ (w2 W:World),W=w2.alloc (.cells #[.string ⟨#[97]⟩,.string ⟨#[120]⟩,.bool false] 66)->Wrs (fun _=>True) W (.slice (some ⟨w2.heap.size,0,none⟩) 1 1) aw1):=fun w2 W hW=>by
  subst hW;exact Sl.ofBlkN (xs:=z9r aw1) (Blk.new w2 66 _) trivial rfl (by simp [maxLen])
 have HWM:Hid (∀ (w2 W:World),W=w2.alloc (.cells #[.string ⟨#[97]⟩,.string ⟨#[]⟩,.bool true,.string ⟨#[98]⟩,.string ⟨#[121]⟩,.bool false] 66)->Wrs (fun _=>True) W (.slice (some ⟨w2.heap.size,0,none⟩) 2 2) aw2):=fun w2 W hW=>by
  subst hW;exact Sl.ofBlkN (xs:=z9r aw2) (Blk.new w2 66 _) trivial rfl (by simp [maxLen])
 clear hx hb;go_wp2_with fail
 refine(z7h (HX.out.later ((y7 _ _).alloc (y5 _) _)) (by omega) (fun _=>True) _ aw1 (HWN.out _ _ rfl) (by decide) rfl).mono ?_;rintro e w2 ⟨er,rfl,h0,hx,-⟩;obtain rfl:=h0 aw_1.1 (by omega);rw [yB rfl,yB rfl,aw_1.2]at hx;have HX2:=zz hx;clear hx h0 HX HWN;go_wp2_with fail
 refine(z7h (HX2.out.later ((y7 _ _).alloc (y5 _) _)) (by omega) (fun _=>True) _ aw2 (HWM.out _ _ rfl) (by decide) rfl).mono ?_;rintro e w3 ⟨er,rfl,h0,hx,-⟩;obtain rfl:=h0 aw_2.1 (by omega);rw [yB rfl,yB rfl,aw_2.2]at hx;have HX3:=zz hx;clear hx h0 HX2 HWM;go_wp2_with fail
 obtain⟨tl,hv⟩:=HX3.out.vv (by omega);have HV:=zz hv;clear hv;have hg:=z9j HV.out (by unfold U64;omega) [97] (by simp) 1 rfl;rw [aw_3.1]at hg;refine hg.mono ?_;rintro e w4 ⟨rfl,hb4⟩;have HB4:=zz hb4;clear hg hb4;unfold zGd;go_wp2_with fail
 have hg:=z9j (HV.out.later HB4.out) (by unfold U64;omega) [97] (by simp) 2 rfl;rw [aw_3.2.1]at hg;refine hg.mono ?_;rintro e w5 ⟨rfl,hb5⟩;have HB5:=zz (HB4.out.trans (hb5.mono HB4.out.size));clear hg hb5 HB4;unfold zGd;go_wp2_with fail
 refine(z3w w5).mono ?_;rintro e w6 ⟨rfl,hb6⟩;have HB6:=zz (HB5.out.trans (hb6.mono HB5.out.size));clear hb6 HB5;go_wp2_with fail
 have hsc:=z4B (HV.out.later HB6.out) (by decide) (by unfold U64;omega) 2 (by omega) (by omega) rfl;rw [aw_3.2.2]at hsc;refine hsc.mono ?_;rintro e w7 ⟨A7,c7,rfl,hcs,hb7⟩;have HX7:=zz ((HX3.out.later HB6.out).keep hb7);have HCS:=zz hcs;clear hsc hcs hb7 HX3 HV HB6;go_wp2_with fail
 refine(z4T HX7.out (by omega) 2 10 (by omega) rfl).mono ?_;rintro e w8 ⟨er,n,rfl,hn,-,h0,hx,hk,-⟩;obtain rfl:=h0 (by omega) (by omega) (by omega);obtain⟨-,-,rfl⟩:=hn rfl;rw [yB rfl,yB rfl,aw_4.2.1]at hx;rw [aw_4.1];have HX8:=zz hx;have HCS8:=zz (Sl.keep HCS.out fun b o hb=>yR (hk b hb));clear hx hn h0 hk HX7 HCS;go_wp2_with fail
 obtain⟨tl8,hv⟩:=HX8.out.vv (by omega);have HV8:=zz hv;clear hv;refine(z9j HV8.out (by unfold U64;omega) [97] (by simp) 1 rfl).mono ?_;rintro e w9 ⟨rfl,hb9⟩;have HX9:=zz (HX8.out.later hb9);have HV9:=zz (HV8.out.later hb9);have HCS9:=zz (Sl.lt HCS8.out (by omega));have HCS10:Hid (∀o,Cs (fun _=>True) (w9.alloc o) (.slice A7 [(([98]:List UInt8),([121]:List UInt8))].length c7) [([98],[121])]):=fun o=>Sl.more (Sl.below ((Sl.below HCS9.out hb9 fun b h=>h.2).more (S':=fun b=>b<w9.heap.size) fun b h=>yE h.2 hb9.size) ((y7 _ _).alloc (y5 _) o) fun b h=>h) fun _ _=>trivial
 clear hb9 HX8 HV8 HCS8 HCS9;rw [show zGd (zAM 2 2 1) (z82 (z1Y ar3 [97]) 1)= .tuple #[.string (st []),.int .i64 172]from rfl];go_wp2_with fail
 have hsm:=z5i _ _ _ _ _ [([98],[121])] _ (HCS10.out _) (Sl.ofBlkN (S:=fun _=>True) (xs:=ccs [([98],[121])]) (Blk.new w9 94 #[.string ⟨#[98]⟩,.string ⟨#[121]⟩]) trivial rfl (by simp [maxLen]));refine hsm.mono ?_;rintro e w10 ⟨rfl,hb10⟩;have hq10:=((y7 w9.heap.size w9).alloc (y5 _) (.cells #[.string ⟨#[98]⟩,.string ⟨#[121]⟩] 94)).trans (hb10.mono (by simp));have HX10:=zz (HX9.out.later hq10);have HV10:=zz (HV9.out.later hq10);clear hsm hb10 hq10 HCS10 HX9 HV9;go_wp2_with fail
 refine(z2H HX10.out.blk rfl).mono ?_;rintro e w11 ⟨rfl,rfl⟩;go_wp2_with fail
 refine(z9k HX10.out.blk rfl).mono ?_;rintro e w12 ⟨rfl,rfl⟩;go_wp2_with fail
 refine(z2X HV10.out (by decide) [98] (by simp) rfl).mono ?_;rintro e w13 ⟨A13,c13,rfl,-,hb13⟩;rw [aw_4.2.2];have HB:=zz (HX10.out.later hb13).below;clear hb13 HX10 HV10;go_wp2_with fail
 go_ret
 exact⟨rfl,HB.out⟩
end
end Go.Proofs.YthnlcbamjehpdaaGreatDoor
