/- Part 48. -/
import Derived.Test.YthnlcbamjehpdaaGreatDoorViewCollectsJ34
namespace Go.Proofs.YthnlcbamjehpdaaGreatDoor
set_option linter.unusedVariables false
set_option maxHeartbeats 16000000
set_option maxRecDepth 100000
section
open Go Go.RowKit Tryz
theorem zJO:Elem prog 43 66 (.agg #[.string ⟨#[]⟩,.string ⟨#[]⟩,.bool false]) 3 40:=Elem.mk' underlying43 (by kernel_rfl) rfl (by omega)
theorem zJC:z1W prog 46 5:=⟨⟨_,underlying46⟩,by kernel_rfl⟩
structure VAct where
 kind:Int
 most:Int
 at_:Nat
 ws:List Wri
 left:List (Int×Int)
 wv:Value
 lv:Value
structure VAct.Ok(x:VAct)(w:World):Prop where
 kind:InI x.kind
 most:InI x.most
 at_:x.at_<U64
 len:∀q∈x.ws,q.k.length<=140737488351232/\q.v.length<=140737488351232
 ws:Wrs (fun b=>b<w.heap.size) w x.wv x.ws
 left:Sv (fun b=>b<w.heap.size) w x.lv x.left
def VActs(w:World)(v:Value)(xs:List VAct):Prop:=
 ∃A c,v= .slice A xs.length c/\xs.length<=9223372036854775807/\(∀x∈xs,x.Ok w)/\(0<xs.length->∃b o,A=some ⟨b,o,none⟩/\b<w.heap.size/\∀j (hj:j<xs.length),
  w.cell? ⟨b,o+j*5,none⟩=some (.int .i64 xs[j].kind)/\w.cell? ⟨b,o+j*5+1,none⟩=some (.int .i64 xs[j].most)/\w.cell? ⟨b,o+j*5+2,none⟩=some (.int .u64 (xs[j].at_:Int))/\w.cell? ⟨b,o+j*5+3,none⟩=some xs[j].wv/\w.cell? ⟨b,o+j*5+4,none⟩=some xs[j].lv)
def z6m(x:Wri):Wri:=⟨x.k.take 300,x.v.take 300,x.gone⟩
theorem zEe(l:List Wri):∀x∈(l.take 10).map z6m,x.v.length<=9223372036854775807/\x.k.length<=9223372036854775807:=fun x hx=>by
 obtain⟨y,_,rfl⟩:=yP.1 hx;simp only [z6m,yC];omega
def zIn(l:List Wri):List Wri:=(l.take 10).map z6m
theorem zIX(a b:List Wri):z9r (a++b)=z9r a++z9r b:=by simp [z9r]
theorem zC4(x:Wri):z9r [x]=z87 x:=by simp [z9r]
theorem zGy(x:Wri):∀y∈z87 x,y.oneCell'=true:=fun y hy=>by
 simp [z87]at hy;rcases hy with rfl|rfl|rfl<;>rfl
theorem zF6{l:List Wri}{i:Nat}(hi:i<l.length):(l.take (i+1)).map z6m=(l.take i).map z6m++ [z6m l[i]]:=by
 rw [yO hi,Y6];rfl
theorem zF5{l:List Wri}{i:Nat}(h1:i<=l.length)(h2:i<=10)(h:i=l.length∨i=10):(l.take i).map z6m=zIn l:=by
 unfold zIn;rcases h with rfl|rfl
 .rw [ya (y5 _),ya h2]
 .rfl
structure FwS(W w:World)(v:Value)(l:List Wri)(i:Nat):Prop where
 own:w.ownsRow W.heap.size 66 3 v i (z9r ((l.take i).map z6m))
 below:Below W.heap.size W w
def zJA(kind most:Int)(at_:Nat)(ws:List Wri)(w:World)(e:Ending)(w':World):Prop:=
 ∃v AL nL cL,e= .returned (.agg #[.int .i64 kind,.int .i64 most,.int .u64 (at_:Int),v,.slice AL nL cL])/\Wrs (fun b=>w.heap.size<=b/\b<w'.heap.size) w' v (zIn ws)/\Below w.heap.size w w'
theorem zF4(S S':Nat->Prop)(kind most:Int)(at_:Nat)(v0 vl:Value)(ws:List Wri)(left:List (Int×Int))(w:World)(hr:Wrs S w v0 ws)(hs:Sv S' w vl left)(hlen:∀x∈ws,x.k.length<=9223372036854775807/\x.v.length<=9223372036854775807):
 Calls prog 14 #[.agg #[.int .i64 kind,.int .i64 most,.int .u64 (at_:Int),v0,vl]] w (zJA kind most at_ ws w):=by
 have HLN:=zz hlen;obtain⟨A,c,rfl,hlc,hcm,-,hA⟩:=hr.lt.at;have HA:=zz hA;obtain⟨AL,cL,rfl,hAL⟩:=hs.at;have hcl:left.length<=cL:=by
  obtain⟨_,A',c',hv,h3,_⟩:=hs;cases hv
  exact h3
 have q0:Below w.heap.size w ((w.alloc (.cells #[.int .i64 kind,.int .i64 most,.int .u64 (at_:Int),.slice A ws.length c,.slice AL left.length cL] 46)).alloc (.cells #[.int .i64 0,.int .i64 0,.int .u64 0,.slice none 0 0,.slice none 0 0] 46)):=((y7 _ _).alloc (y5 _) _).alloc (by simp) _;have hbx:Blk ((w.alloc (.cells #[.int .i64 kind,.int .i64 most,.int .u64 (at_:Int),.slice A ws.length c,.slice AL left.length cL] 46)).alloc (.cells #[.int .i64 0,.int .i64 0,.int .u64 0,.slice none 0 0,.slice none 0 0] 46)) w.heap.size 46 #[.int .i64 kind,.int .i64 most,.int .u64 (at_:Int),.slice A ws.length c,.slice AL left.length cL]:=(Blk.new _ _ _).alloc _;have hbr:=Blk.new1 w (.cells #[.int .i64 kind,.int .i64 most,.int .u64 (at_:Int),.slice A ws.length c,.slice AL left.length cL] 46) 46 #[.int .i64 0,.int .i64 0,.int .u64 0,.slice none 0 0,.slice none 0 0];have hzW:((w.alloc (.cells #[.int .i64 kind,.int .i64 most,.int .u64 (at_:Int),.slice A ws.length c,.slice AL left.length cL] 46)).alloc (.cells #[.int .i64 0,.int .i64 0,.int .u64 0,.slice none 0 0,.slice none 0 0] 46)).heap.size=w.heap.size+1+1:=by simp
 clear hr hs hA hlen;go_enter func14,ntmps14
 go_upto_region 1 with(fail)
 generalize hW:(w.alloc (.cells #[.int .i64 kind,.int .i64 most,.int .u64 (at_:Int),.slice A ws.length c,.slice AL left.length cL] 46)).alloc (.cells #[.int .i64 0,.int .i64 0,.int .u64 0,.slice none 0 0,.slice none 0 0] 46)=W at*;clear hW;obtain⟨gx,hgx⟩:∃gx,w.heap.size=gx:=⟨_,rfl⟩;rw [hgx]at hbx hbr hzW ⊢;have hgr:gx≠gx+1:=by omega
 have HG:Hid (w.heap.size<=gx/\w.heap.size=gx):=⟨by omega,hgx⟩;have HQ:=zz q0;have HBX:=zz hbx;have HBR:=zz hbr;have hx4:W.cell? ⟨gx,4,none⟩=some (.slice AL left.length cL):=hbx.cell 4;have hx4f:W.frozen? ⟨gx,4,none⟩=false:=hbx.free 4;clear q0 hbx hbr hgx;go_upto_if 9 with(fail)
 go_cut [] (fun wx=>∃ (AL':Option Addr) (nL' cL':Nat),Hid (Blk wx gx 46 #[.int .i64 kind,.int .i64 most,.int .u64 (at_:Int),.slice A ws.length c,.slice AL' nL' cL'])/\Hid (Blk wx (gx+1) 46 #[.int .i64 0,.int .i64 0,.int .u64 0,.slice none 0 0,.slice none 0 0])/\Hid (Below w.heap.size w wx)/\Hid (wx.heap.size=gx+1+1))
 case first=>
  by_cases hl:60<left.length
  .obtain⟨b,o,rfl,-⟩:=hAL (by omega);have hc0:¬cL=0:=by omega
   have h60:(60:Int)<=(cL:Int):=by omega
   have h61:(60:Int)<(left.length:Int):=by omega
   clear hAL;go_wp2_with fail
   go_meet
   exact⟨_,_,_,HBX.out.put 4 _,HBR.out.far (p:=⟨gx,4,none⟩) (by simp) _,HQ.out.setCell HG.out.1 _,by rw [Hid];simp [hzW]⟩
  .have h61:¬ (60:Int)<(left.length:Int):=by omega
   clear hAL;go_wp2_with fail
   go_meet
   exact⟨_,_,_,HBX,HBR,HQ,hzW⟩
 obtain⟨AL',nL',cL',HBX1,HBR1,HQ1,HZ1⟩:=hcut;clear HBX HBR HQ hx4 hx4f hAL;generalize wc=W1 at*;have hx3:W1.cell? ⟨gx,3,none⟩=some (.slice A ws.length c):=HBX1.out.cell 3;go_upto_region 4 with(fail)
 have R0:Hid (FwS W1 (W1.alloc (.cells #[] 66)) (.slice (some ⟨W1.heap.size,0,none⟩) 0 0) ws 0):=⟨ZX W1 #[] 0 (base:=W1.heap.size) (y5 _) (by simp [maxLen]) (by simp),(y7 _ _).alloc (y5 _) _⟩;go_wp2_with fail
 go_loopw [3,4] (fun sv iv wr=>∃ (i:Nat) (A':Option Addr) (c':Nat),sv= .slice A' i c'/\iv= .int .i64 (i:Int)/\i<=ws.length/\i<=10/\Hid (FwS W1 wr (.slice A' i c') ws i)) (fun _ iv _=>10-(intOf iv).toNat)
 case atStart=>exact⟨0,_,0,rfl,rfl,yU _,by omega,R0⟩
 case round=>
  clear R0;obtain⟨i,A',c',rfl,rfl,hi,hi10,RR⟩:=hrel;have hbx:=HBX1.out.later RR.out.below;have hx3:wr.cell? ⟨gx,3,none⟩=some (.slice A ws.length c):=hbx.cell 3;have hx3f:wr.frozen? ⟨gx,3,none⟩=false:=hbx.free 3;by_cases hil:i<ws.length/\i<10
  .obtain⟨h1,h2⟩:=hil;obtain⟨b,o,rfl,hbs,hc⟩:=HA.out (by omega);have hbw:=HQ1.out.trans (RR.out.below.mono HQ1.out.size);have c0:wr.cell? ⟨b,o+i*3,none⟩=some (.string (st ws[i].k)):=(hbw.cell (p:=⟨b,o+i*3,none⟩) hbs.2).trans (hc i h1).1;have c1:wr.cell? ⟨b,o+i*3+1,none⟩=some (.string (st ws[i].v)):=(hbw.cell (p:=⟨b,o+i*3+1,none⟩) hbs.2).trans (hc i h1).2.1;have c2:wr.cell? ⟨b,o+i*3+2,none⟩=some (.bool ws[i].gone):=(hbw.cell (p:=⟨b,o+i*3+2,none⟩) hbs.2).trans (hc i h1).2.2;have HNX:=zz (zF6 h1);have hln:=HLN.out _ (yQ h1);obtain⟨x,hx⟩:∃x,ws[i]=x:=⟨_,rfl⟩;rw [hx]at c0 c1 c2 HNX hln;obtain⟨k,v,gn⟩:=x;simp only at c0 c1 c2 hln;have q1:Below wr.heap.size wr (wr.alloc (.cells #[.string (st k),.string (st v),.bool gn] 66)):=(y7 _ _).alloc (y5 _) _;have HS:=zz (show FwS W1 (wr.alloc (.cells #[.string (st k),.string (st v),.bool gn] 66)) (.slice A' i c') ws i from⟨z17 RR.out.own q1,RR.out.below.trans (q1.mono RR.out.below.size)⟩);have HX:=zz (Blk.new wr 66 #[.string (st k),.string (st v),.bool gn]);have HLT:Hid (∀g,(Value.slice A' i c').ownBlock=some g->g<wr.heap.size):=fun g hg=>(RR.out.own.lt g hg).2
   have HZ:Hid (W1.heap.size<=wr.heap.size):=RR.out.below.size;clear hx hbx RR q1 hbw hc;go_upto_region 8 with(fail)
   generalize hW:wr.alloc (.cells #[.string (st k),.string (st v),.bool gn] 66)=W3 at*;clear hW c0 c1 c2 hx3 hx3f;generalize wr.heap.size=gw at*;have x0:W3.cell? ⟨gw,0,none⟩=some (.string (st k)):=HX.out.cell 0;have x0f:W3.frozen? ⟨gw,0,none⟩=false:=HX.out.free 0;go_upto_if 34 with(fail)
   go_cut [] (fun wx=>Hid (FwS W1 wx (.slice A' i c') ws i)/\Hid (Blk wx gw 66 #[.string (st (k.take 300)),.string (st v),.bool gn]))
   case first=>
    by_cases hk:300<k.length
    .have e1:(300:Int)<(k.length:Int):=by omega
     go_wp2_with fail
     go_meet
     exact⟨⟨ownsRow_setCell_other HS.out.own (fun e=>absurd (HLT.out _ e) (Yi _)) _,HS.out.below.setCell HZ.out _⟩,HX.out.put 0 _⟩
    .have e1:¬ (300:Int)<(k.length:Int):=by omega
     have HE:Hid (k.take 300=k):=ya (by omega);go_wp2_with fail
     go_meet
     rw [HE.out];exact⟨HS,HX⟩
   obtain⟨HS1,HX1⟩:=hcut;clear HS HX x0 x0f;generalize wc=W4 at*;have x1:W4.cell? ⟨gw,1,none⟩=some (.string (st v)):=HX1.out.cell 1;have x1f:W4.frozen? ⟨gw,1,none⟩=false:=HX1.out.free 1;go_upto_if 42 with(fail)
   go_cut [] (fun wx=>Hid (FwS W1 wx (.slice A' i c') ws i)/\Hid (Blk wx gw 66 #[.string (st (k.take 300)),.string (st (v.take 300)),.bool gn]))
   case first=>
    by_cases hv:300<v.length
    .have e1:(300:Int)<(v.length:Int):=by omega
     go_wp2_with fail
     go_meet
     exact⟨⟨ownsRow_setCell_other HS1.out.own (fun e=>absurd (HLT.out _ e) (Yi _)) _,HS1.out.below.setCell HZ.out _⟩,HX1.out.put 1 _⟩
    .have e1:¬ (300:Int)<(v.length:Int):=by omega
     have HE:Hid (v.take 300=v):=ya (by omega);go_wp2_with fail
     go_meet
     rw [HE.out];exact⟨HS1,HX1⟩
   obtain⟨HS2,HX2⟩:=hcut;clear HS1 HX1 x1 x1f;generalize wc=W5 at*;have e:Hid (z6m ⟨k,v,gn⟩=⟨k.take 300,v.take 300,gn⟩):=rfl;rw [e.out]at HNX;clear e;generalize k.take 300=k' at*;generalize v.take 300=v' at*;have x0:(W5).cell? ⟨gw,0,none⟩=some (.string (st k')):=HX2.out.cell 0;have x1:(W5).cell? ⟨gw,1,none⟩=some (.string (st v')):=HX2.out.cell 1;have x2:(W5).cell? ⟨gw,2,none⟩=some (.bool gn):=HX2.out.cell 2;have hz5:W1.heap.size<=W5.heap.size:=HS2.out.below.size;go_wp2_with (at_builtin;go_loud (refine z0A _ rfl (.tmp 47) (.tmp 49) zJO rfl (YC HS2.out.own _) (Sl.newb (S:=fun _=>True) _ _ (z87 ⟨k',v',gn⟩) (by simp) trivial) rfl rfl (zGy _) (by simp only [maxLen];omega) (by omega) (by simp;omega) ?_);intro A5 k5 c5 w5 hown5 hg5 hat5)
   obtain rfl:k5=i+1:=z0h hown5;have RF:Hid (FwS W1 w5 (.slice A5 (i+1) c5) ws (i+1)):=by
    refine⟨?_,z01 (HS2.out.below.alloc hz5 _) (YC HS2.out.own _) hg5 (by simp;omega)⟩;rw [HNX.out,zIX,zC4];exact hown5
   clear hown5 hg5 hat5 HS2 HX2 HNX x0 x1 x2 hz5;go_wp2_with fail
   go_roundw
   case rel=>exact⟨i+1,A5,c5,rfl,by go_num,by omega,by omega,RF⟩
   case measure=>simp [intOf];omega
  .have HE:Hid ((ws.take i).map z6m=zIn ws):=zF5 hi hi10 (by omega);have hlv:i=ws.length∨(i<ws.length/\i=10):=by omega
   have hw:Wrs (fun b=>gx+1+1<=b/\b<wr.heap.size) wr (.slice A' i c') (zIn ws):=by
    rw [<-HE.out];unfold Wrs;rw [show((ws.take i).map z6m).length=i by simp;omega];exact(Sl.of_own (by omega) RR.out.own).more fun b hb=>⟨by have:=HZ1.out;omega,hb.2⟩
   have hbr:=HBR1.out.later RR.out.below;have HW:=zz hw;have HB:=zz (HQ1.out.trans (RR.out.below.mono HQ1.out.size));have HBXr:=zz hbx;have HBRr:=zz hbr;clear RR hbx hbr hil hw HE hx3 hx3f;have hS0:¬ (gx+1+1<=gx/\gx<wr.heap.size):=by omega
   have hS1:¬ (gx+1+1<=gx+1/\gx+1<wr.heap.size):=by omega
   have hg1:w.heap.size<=gx+1:=Nat.le_succ_of_le HG.out.1;rcases hlv with rfl|⟨h1,rfl⟩
   all_goals
    have y0:(wr).cell? ⟨gx,0,none⟩=some (.int .i64 kind):=HBXr.out.cell 0;have y1:(wr).cell? ⟨gx,1,none⟩=some (.int .i64 most):=HBXr.out.cell 1;have y2:(wr).cell? ⟨gx,2,none⟩=some (.int .u64 (at_:Int)):=HBXr.out.cell 2;have y3:(wr).cell? ⟨gx,3,none⟩=some (.slice A ws.length c):=HBXr.out.cell 3;have y4:(wr).cell? ⟨gx,4,none⟩=some (.slice AL' nL' cL'):=HBXr.out.cell 4;have yf0:(wr).frozen? ⟨gx,0,none⟩=false:=HBXr.out.free 0;have yf1:(wr).frozen? ⟨gx,1,none⟩=false:=HBXr.out.free 1;have yf2:(wr).frozen? ⟨gx,2,none⟩=false:=HBXr.out.free 2;have yf3:(wr).frozen? ⟨gx,3,none⟩=false:=HBXr.out.free 3;have yf4:(wr).frozen? ⟨gx,4,none⟩=false:=HBXr.out.free 4;have z0:(wr).cell? ⟨gx+1,0,none⟩=some (.int .i64 0):=HBRr.out.cell 0;have z1:(wr).cell? ⟨gx+1,1,none⟩=some (.int .i64 0):=HBRr.out.cell 1;have z2:(wr).cell? ⟨gx+1,2,none⟩=some (.int .u64 0):=HBRr.out.cell 2;have z3:(wr).cell? ⟨gx+1,3,none⟩=some (.slice none 0 0):=HBRr.out.cell 3;have z4:(wr).cell? ⟨gx+1,4,none⟩=some (.slice none 0 0):=HBRr.out.cell 4;have zf0:(wr).frozen? ⟨gx+1,0,none⟩=false:=HBRr.out.free 0;have zf1:(wr).frozen? ⟨gx+1,1,none⟩=false:=HBRr.out.free 1;have zf2:(wr).frozen? ⟨gx+1,2,none⟩=false:=HBRr.out.free 2;have zf3:(wr).frozen? ⟨gx+1,3,none⟩=false:=HBRr.out.free 3;have zf4:(wr).frozen? ⟨gx+1,4,none⟩=false:=HBRr.out.free 4;go_wp2_with fail
    refine bodyPost_ret (z0V rfl _ _ (gx+1) rfl ((((((HBRr.out.far (p:=⟨gx,3,none⟩) (by simp) _).put 0 _).put 1 _).put 2 _).put 3 _).put 4 _) zJC) rfl ⟨_,_,_,_,rfl,?_,(((((HB.out.setCell HG.out.1 _).setCell (p:=⟨gx+1,0,none⟩) hg1 _).setCell (p:=⟨gx+1,1,none⟩) hg1 _).setCell (p:=⟨gx+1,2,none⟩) hg1 _).setCell (p:=⟨gx+1,3,none⟩) hg1 _).setCell (p:=⟨gx+1,4,none⟩) hg1 _⟩;exact Sl.more ((((((Sl.setCell HW.out (p:=⟨gx,3,none⟩) hS0 _).setCell (p:=⟨gx+1,0,none⟩) hS1 _).setCell (p:=⟨gx+1,1,none⟩) hS1 _).setCell (p:=⟨gx+1,2,none⟩) hS1 _).setCell (p:=⟨gx+1,3,none⟩) hS1 _).setCell (p:=⟨gx+1,4,none⟩) hS1 _) fun b hb=>⟨by have:=HG.out.2;omega,by simpa using hb.2⟩
end
end Go.Proofs.YthnlcbamjehpdaaGreatDoor
