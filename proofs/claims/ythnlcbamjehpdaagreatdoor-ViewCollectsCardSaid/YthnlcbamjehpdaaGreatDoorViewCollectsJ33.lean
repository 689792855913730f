/- Part 33. -/
import Derived.Test.YthnlcbamjehpdaaGreatDoorViewCollectsJ29
import Derived.Test.YthnlcbamjehpdaaGreatDoorViewCollectsJ31
import Derived.Test.YthnlcbamjehpdaaGreatDoorViewCollectsJ32
namespace Go.Proofs.YthnlcbamjehpdaaGreatDoor
set_option linter.unusedVariables false
set_option maxHeartbeats 16000000
set_option maxRecDepth 100000
section
open Go Go.RowKit Tryz
def DnOk(c:Int->List UInt8):Pgr->List TStp->Int->Pag->Prop
 |_,[],id,x=>UpOk x/\InI id
 |P,s::r,id,x=>(UpOk x/\InI id)/\(szP x<512->UpStp s/\LvIn P c s x/\UpOk (z0e P c s id x).2/\
    (2048<szP (z0e P c s id x).2->(∀q∈r,UpStp q)/\Root0 r.reverse s.id)/\(szP (z0e P c s id x).2<=2048->DnOk c (z0e P c s id x).1 r s.id (z0e P c s id x).2))
theorem DnOk.ok{c:Int->List UInt8}{P:Pgr}{l:List TStp}{id:Int}{x:Pag}(h:DnOk c P l id x):UpOk x/\InI id:=by
 cases l with
 |nil=>exact h
 |cons s r=>exact h.1
theorem z5F{w w':World}{g:Nat}(h:Turn (fun b=>b=g) w w'):w.grownBy w' (some g):=
 ⟨h.os,h.tape,h.output,h.size,fun b hb hne=>h.block b hb fun e=>hne (by rw [e])⟩
def DnF(w:World)(Z:Pz):Nat->Prop:=fun b=>b<w.heap.size/\¬Z.has b
structure DnwSt(w wr:World)(g:Nat)(Z:Pz)(c:Int->List UInt8)(R:Pgr)(v:Value)(l:z7q)(id:Int)(x:Pag)(u:Value)(P:Pgr):Prop where
 L:Loc (DnF w Z) w wr g Z P c [⟨w.heap.size,175,#[.bool x.1,.int .i64 (x.2.1:Int),u]⟩] [(u,x.2.2)]
 W:Wsl (DnF w Z) wr v l
 K:DnOk c P (l.map (·.1)).reverse id x
 E:z2t c P (l.map (·.1)).reverse id x=R
theorem Wsl.loc{w W W':World}{Z:Pz}{v:Value}{l:z7q}(h:Wsl (DnF w Z) W v l)(s:Ptp Z W Z W')(hB:w.heap.size<=W.heap.size):Wsl (DnF w Z) W' v l:=
 ⟨Sl.keep h.sl fun b o hb=>yR (s.turn.block b (yE hb.1 hB) hb.2),fun x hx=>Sl.keep (h.cs x hx) fun b o hb=>yR (s.turn.block b (yE hb.1 hB) hb.2)⟩
def VLev(w:World)(g:Nat)(Z:Pz)(c:Int->List UInt8)(R:Pgr×Pag)(gs:Nat)(sv:Array Value):VP:=fun v wg=>∃A c1,∃old:Array Value,v= .agg #[.bool R.2.1,.int .i64 (R.2.2.1:Int),.slice A R.2.2.2.length c1]/\old.size=3/\
 Loc (DnF w Z) w wg g Z R.1 c [⟨gs,177,sv⟩,⟨w.heap.size,175,old⟩] [(.slice A R.2.2.2.length c1,R.2.2.2)]
theorem VLev.stays{w:World}{g:Nat}{Z:Pz}{c:Int->List UInt8}{R:Pgr×Pag}{gs:Nat}{sv:Array Value}:Stays (VLev w g Z c R gs sv):=fun v w1 w2 hb ⟨A,c1,old,h1,h2,h3⟩=>⟨A,c1,old,h1,h2,h3.later hb⟩
theorem VLev.puts{w:World}{g:Nat}{Z:Pz}{c:Int->List UInt8}{R:Pgr×Pag}{gs:Nat}{sv:Array Value}{i:Nat}:z2N (zDB ⟨i,w.heap.size,175,0,3⟩) (VLev w g Z c R gs sv):=fun v w1 w2 hp ⟨A,c1,old,h1,h2,h3⟩=>by
 obtain⟨cs,cs',e1,e2,_,rfl⟩:=id hp;have hs:cs'.size=3:=by
  have:=Blk.same (h3.b ⟨w.heap.size,175,old⟩ (by simp)).1 e1;have e3:old=cs:=this.2;rw [e2,<-e3];exact h2
 exact⟨A,c1,cs',h1,hs,h3.turn (l:= [⟨gs,177,sv⟩]) rfl (Blk.setRow e1 cs') (z5F (zAm hp))⟩
def VBox(w:World)(g:Nat)(Z:Pz)(c:Int->List UInt8)(R:Pgr×Pag):VP:=fun _ wg=>∃A c1,Loc (DnF w Z) w wg g Z R.1 c [⟨w.heap.size,175,#[.bool R.2.1,.int .i64 (R.2.2.1:Int),.slice A R.2.2.2.length c1]⟩] [(.slice A R.2.2.2.length c1,R.2.2.2)]
theorem VBox.stays{w:World}{g:Nat}{Z:Pz}{c:Int->List UInt8}{R:Pgr×Pag}:Stays (VBox w g Z c R):=fun v w1 w2 hb ⟨A,c1,h⟩=>⟨A,c1,h.later hb⟩
theorem zGG(g:Nat)(Z:Pz)(P:Pgr)(c:Int->List UInt8)(l:List TStp)(id:Int)(x:Pag)(hk:DnOk c P l.reverse id x)(hn:l.length<=1000):DownC g Z P c l id x:=by
 intro w S l' A0 c0 v0 hl ht hw hr hS;subst hl;rw [yw]at hn;obtain⟨R,hR⟩:∃R,z2t c P (l'.map (·.1)).reverse id x=R:=⟨_,rfl⟩;obtain⟨lf,n,cs⟩:=x;simp only at hr;have HZ:Hid (∀b,Z.has b->b<w.heap.size):=fun b hb=>ht.pg.lt hb
 have q0:=(y7 w.heap.size w).alloc (y5 _) (.cells #[.bool lf,.int .i64 (n:Int),v0] 175);have R0:Hid (DnwSt w (w.alloc (.cells #[.bool lf,.int .i64 (n:Int),v0] 175)) g Z c R (.slice A0 l'.length c0) l' id (lf,n,cs) v0 P):=
  ⟨((Loc.start (DnF w Z) ht).old ((Sl.lt hr (by omega)).more fun b h=>⟨h.2,hS b h.1⟩) (fun b h=>h)).new 175 _ (by decide),Wsl.loc hw (Ptp.below q0) (y5 _),hk,hR⟩
 rw [hR];have hw0:w.heap.size≠0:=fun e=>by have:=ht.blk.lt;omega
 clear ht hw hr hS hk hR q0;go_enter func152,ntmps152
 go_wp2_with fail
 go_loopw [1,2] (fun lv iv wr=>∃ (A:Option Addr) (c':Nat) (l':z7q) (id':Int) (x:Pag) (u:Value) (P':Pgr),lv= .slice A l'.length c'/\iv= .int .i64 id'/\l'.length<=1000/\Hid (DnwSt w wr g Z c R (.slice A l'.length c') l' id' x u P')) (fun lv _ _=>sLen lv)
 case atStart=>exact⟨A0,c0,l',id,_,v0,P,rfl,rfl,hn,R0⟩
 case round=>
  clear R0 hn;obtain⟨A,c',l',id',⟨leaf',n',cs'⟩,u,P',rfl,rfl,hn,RR⟩:=hrel;have L1:=zz RR.out.L;have hc0:=L1.out.c0;simp only at hc0;obtain⟨A1,c1,rfl,hx0⟩:=hc0.at;clear hx0 hc0;have hku:=RR.out.K.ok;have HU:=zz hku.1;have HI:=zz hku.2;have hnx:=HU.out.nx;have hcl:=HU.out.n;simp only at hnx hcl;by_cases hnil:l'= []
  .subst hnil;have HE:Hid (finP P' c id' (leaf',n',cs')=R):=RR.out.E;clear RR hku;have hx:=L1.out.b0;simp only at hx;have x0:(wr).cell? ⟨w.heap.size,0,none⟩=some (.bool leaf'):=hx.cell 0;have x1:(wr).cell? ⟨w.heap.size,1,none⟩=some (.int .i64 (n':Int)):=hx.cell 1;have x2:(wr).cell? ⟨w.heap.size,2,none⟩=some (.slice A1 cs'.length c1):=hx.cell 2;have xf0:(wr).frozen? ⟨w.heap.size,0,none⟩=false:=hx.free 0;have xf1:(wr).frozen? ⟨w.heap.size,1,none⟩=false:=hx.free 1;have xf2:(wr).frozen? ⟨w.heap.size,2,none⟩=false:=hx.free 2;clear hx;by_cases hsp:id'=0/\leaf'=false/\cs'.length=1
   .obtain⟨rfl,rfl,hl1⟩:=hsp;obtain⟨⟨k0,v1⟩,rfl⟩:=QE.1 hl1;have hE:(P'.free (z0F v1)).wp 0 (P'.pgD c (z0F v1))=R:=by
     rw [<-HE.out];unfold finP;rw [yB ⟨rfl,rfl,rfl⟩];rfl
    obtain⟨b1,o1,rfl⟩:=Cs.some L1.out.c0 (by simp);have f:=Cs.get L1.out.c0 (j:=0) (by simp);have f0:wr.cell? ⟨b1,o1,none⟩=some (.string (st k0)):=f.1;have f1:wr.cell? ⟨b1,o1+1,none⟩=some (.string (st v1)):=f.2;have hvl:=HU.out.sm (k0,v1) (by simp);simp only at hvl;obtain⟨⟨lf3,n3,cs3⟩,h3⟩:∃X,P'.pgD c (z0F v1)=X:=⟨_,rfl⟩;have hp3:=z7H P' c (z0F v1);rw [h3]at hp3 hE;have HP3:=zz hp3;have H3:=zz h3;have hc3:=z0m hp3;simp only at hc3;have HEQ:=zz hE;clear f hl1 hp3 hE h3;go_wp2_with fail
    refine(z3S k0 v1 wr (by omega)).mono ?_;rintro e w2 ⟨rfl,hb2⟩;have L2:=zz (L1.out.later hb2);clear hb2 f0 f1 x0 x1 x2 xf0 xf1 xf2;go_wp2_with fail
    have hrd:=z2n g Z P' c (z0F v1) w2 L2.out.T (z1X _);rw [H3.out]at hrd;refine hrd.mono ?_;clear hrd;rintro e w3 ⟨v,rfl,⟨A3,c3,rfl,hcs3⟩,hb3⟩;have L3:=zz (Loc.call L2.out hb3 hcs3);have hx3:=L3.out.b0;simp only at hx3;have x0:(w3).cell? ⟨w.heap.size,0,none⟩=some (.bool false):=hx3.cell 0;have x1:(w3).cell? ⟨w.heap.size,1,none⟩=some (.int .i64 (n':Int)):=hx3.cell 1;have x2:(w3).cell? ⟨w.heap.size,2,none⟩=some (.slice (some ⟨b1,o1,none⟩) 1 c1):=hx3.cell 2;have xf0:(w3).frozen? ⟨w.heap.size,0,none⟩=false:=hx3.free 0;have xf1:(w3).frozen? ⟨w.heap.size,1,none⟩=false:=hx3.free 1;have xf2:(w3).frozen? ⟨w.heap.size,2,none⟩=false:=hx3.free 2;clear hx3 hcs3 hb3;go_upto_region 10 with(fail)
    have L4:=zz (Loc.put3 (l:= []) L3.out rfl (.bool lf3) (.int .i64 (n3:Int)) (.slice A3 cs3.length c3));clear x0 x1 x2 xf0 xf1 xf2;generalize ((w3.setCell ⟨w.heap.size,0,none⟩ _).setCell ⟨w.heap.size,1,none⟩ _).setCell ⟨w.heap.size,2,none⟩ _=W4 at*;have t0:W4.cell? ⟨g,0,none⟩=some (.pointer (some ⟨Z.g,0,none⟩)):=L4.out.T.blk.cell 0;go_wp2_with fail
    refine(z7G Z P' (z0F v1) W4 L4.out.T.pg (z1X _)).mono ?_;rintro e w5 ⟨he,hd5⟩;obtain⟨n5,hn5⟩:∃n5:Int,(if P'.has (z0F v1)then(0:Int)else 131)=n5:=⟨_,rfl⟩;rw [hn5]at he;subst he;have L5:=zz (L4.out.done (P':=P'.free (z0F v1)) ⟨L4.out.T.done hd5 (Kin.free _ _),hd5.2⟩);have hx5:=L5.out.b0;simp only at hx5;clear hd5 hn5 t0;have x0:(w5).cell? ⟨w.heap.size,0,none⟩=some (.bool lf3):=hx5.cell 0;have x1:(w5).cell? ⟨w.heap.size,1,none⟩=some (.int .i64 (n3:Int)):=hx5.cell 1;have x2:(w5).cell? ⟨w.heap.size,2,none⟩=some (.slice A3 cs3.length c3):=hx5.cell 2;clear hx5;go_wp2_with fail
    refine(z0M g Z (P'.free (z0F v1)) c 0 _ lf3 n3 _ cs3 w5 L5.out.T (by unfold InI;omega) (zFU HP3.out) (by omega) L5.out.c0).mono ?_;rintro e w6 ⟨rfl,hd6⟩;have L6:=zz (L5.out.done hd6);clear hd6;go_wp2_with fail
    go_end0
    have hT:=L6.out.T;rw [HEQ.out]at hT;exact⟨rfl,hT,L6.out.S⟩
   .have HEW:Hid (P'.wp id' (leaf',n',cs')=R):=by
     rw [Hid,<-HE.out];unfold finP;rw [yA hsp]
    by_cases hi0:id'=0
    .have i0:(id'==0)=true:=Z9.2 hi0;have hlf:leaf'=true∨leaf'=false/\cs'.length≠1:=by
      cases leaf' with
      |true=>exact .inl rfl
      |false=>exact .inr ⟨rfl,fun h=>hsp ⟨hi0,rfl,h⟩⟩
     clear hsp hi0;rcases hlf with rfl|⟨rfl,hl1⟩
     .skip
      go_wp2_with fail
      refine(z0M g Z P' c id' _ true n' _ cs' wr L1.out.T HI.out HU.out.mid (by omega) L1.out.c0).mono ?_;rintro e w6 ⟨rfl,hd6⟩;have L6:=zz (L1.out.done hd6);clear hd6;go_wp2_with fail
      go_end0
      have hT:=L6.out.T;rw [HEW.out]at hT;exact⟨rfl,hT,L6.out.S⟩
     .have l1:((cs'.length:Int)==1)=false:=yV.2 (by omega);go_wp2_with fail
      refine(z0M g Z P' c id' _ false n' _ cs' wr L1.out.T HI.out HU.out.mid (by omega) L1.out.c0).mono ?_;rintro e w6 ⟨rfl,hd6⟩;have L6:=zz (L1.out.done hd6);clear hd6;go_wp2_with fail
      go_end0
      have hT:=L6.out.T;rw [HEW.out]at hT;exact⟨rfl,hT,L6.out.S⟩
    .have i0:(id'==0)=false:=yV.2 hi0;clear hsp hi0;go_wp2_with fail
     refine(z0M g Z P' c id' _ leaf' n' _ cs' wr L1.out.T HI.out HU.out.mid (by omega) L1.out.c0).mono ?_;rintro e w6 ⟨rfl,hd6⟩;have L6:=zz (L1.out.done hd6);clear hd6;go_wp2_with fail
     go_end0
     have hT:=L6.out.T;rw [HEW.out]at hT;exact⟨rfl,hT,L6.out.S⟩
  .obtain⟨l2,⟨s,u2⟩,hl2⟩:=z5k (l:=l') hnil;clear hnil;subst hl2;have hlen:(l2++ [(s,u2)]).length=l2.length+1:=by simp
   have hrev:((l2++ [(s,u2)]).map (·.1)).reverse=s::(l2.map (·.1)).reverse:=by simp
   have HK:Hid (DnOk c P' (s::(l2.map (·.1)).reverse) id' (leaf',n',cs')):=by rw [Hid,<-hrev];exact RR.out.K
   have HE0:Hid (z2t c P' (s::(l2.map (·.1)).reverse) id' (leaf',n',cs')=R):=by rw [Hid,<-hrev];exact RR.out.E
   have HW1:=zz RR.out.W;rw [hlen]at hn HW1 ⊢;have hx:=L1.out.b0;simp only at hx;have x0:(wr).cell? ⟨w.heap.size,0,none⟩=some (.bool leaf'):=hx.cell 0;have x1:(wr).cell? ⟨w.heap.size,1,none⟩=some (.int .i64 (n':Int)):=hx.cell 1;have x2:(wr).cell? ⟨w.heap.size,2,none⟩=some (.slice A1 cs'.length c1):=hx.cell 2;clear hx RR hku hlen hrev;have hpos:decide ((0:Int)<((l2.length+1:Nat):Int))=true:=yq (by omega);go_wp2_with fail
   refine(z3Q _ leaf' (n':Int) _ cs' wr (by omega) HU.out.mid L1.out.c0).mono ?_;rintro e w1 ⟨rfl,hb1⟩;have L2:=zz (L1.out.later hb1);have HW2:=zz (HW1.out.loc (Ptp.below hb1) L1.out.size);have hszp:szP (leaf',n',cs')=z2v (n':Int) cs':=rfl;clear hb1 L1 HW1 x0 x1 x2;by_cases hsz:szP (leaf',n',cs')<512
   .have z1:decide ((z2v (n':Int) cs':Int)<(512:Int))=true:=yq (by omega);obtain⟨hst,hin,hbig,hup2,hsml⟩:=HK.out.2 hsz;have HE1:Hid ((if 2048<szP (z0e P' c s id' (leaf',n',cs')).2 then upP (z0e P' c s id' (leaf',n',cs')).1 (l2.map (·.1)).reverse s.id (z0e P' c s id' (leaf',n',cs')).2 else z2t c (z0e P' c s id' (leaf',n',cs')).1 (l2.map (·.1)).reverse s.id (z0e P' c s id' (leaf',n',cs')).2)=R):=by
     have:=HE0.out;rw [z2t,yB hsz]at this;exact this
    obtain⟨hw8,bb,oo,rfl,hSb,hcells,hle,hmx,hcs⟩:=Wsl.pop HW2.out;have HW8:=zz hw8;have HCS:=zz hcs;obtain⟨A2,c2,rfl,hx0⟩:=hcs.at;obtain⟨sid,sat,slf,sn,scs⟩:=s;have f0:w1.cell? ⟨bb,oo+l2.length*5,none⟩=some (.int .i64 sid):=hcells 0 _ rfl;have f1:w1.cell? ⟨bb,oo+l2.length*5+1,none⟩=some (.int .i64 (sat:Int)):=hcells 1 _ rfl;have f2:w1.cell? ⟨bb,oo+l2.length*5+2,none⟩=some (.bool slf):=hcells 2 _ rfl;have f3:w1.cell? ⟨bb,oo+l2.length*5+3,none⟩=some (.int .i64 (sn:Int)):=hcells 3 _ rfl;have f4:w1.cell? ⟨bb,oo+l2.length*5+4,none⟩=some (.slice A2 scs.length c2):=hcells 4 _ rfl;have ew:IntKind.i64.wrap (((l2.length+1:Nat):Int)-1)=(l2.length:Int):=by
     rw [z1C (by omega) (by omega)];omega
    have L3:=zz (L2.out.new 177 #[.int .i64 sid,.int .i64 (sat:Int),.bool slf,.int .i64 (sn:Int),.slice A2 scs.length c2] (by decide));have HW3:=zz (HW8.out.loc (Ptp.below ((y7 w1.heap.size w1).alloc (y5 _) (.cells #[.int .i64 sid,.int .i64 (sat:Int),.bool slf,.int .i64 (sn:Int),.slice A2 scs.length c2] 177))) L2.out.size);have hww:=L2.out.size;have HCS3:=zz (Sl.below HCS.out ((y7 w1.heap.size w1).alloc (y5 _) (.cells #[.int .i64 sid,.int .i64 (sat:Int),.bool slf,.int .i64 (sn:Int),.slice A2 scs.length c2] 177)) fun b h=>yE h.1 hww);have HST:=zz hst;have HIN:=zz hin;have HUP2:=zz hup2;have HBIG:=zz hbig;have HSML:=zz hsml;obtain⟨R2,hR2⟩:∃R2,z0e P' c ⟨sid,sat,slf,sn,scs⟩ id' (leaf',n',cs')=R2:=⟨_,rfl⟩;have HR2:=zz hR2;rw [hR2]at HE1 HUP2 HBIG HSML;clear hw8 hcs hSb hcells hx0 hst hin hup2 hbig hsml hR2 HE0 HK hsz hszp L2 HW2 HW8 HCS;go_upto_region 4 with(fail)
    generalize hW4:w1.alloc _=W4 at*;have hgs:w1.heap.size<W4.heap.size:=by rw [<-hW4];simp
    clear hW4;generalize w1.heap.size=gs at*;have hb4:=L3.out.b1;have hs4:=L3.out.b0;simp only at hb4 hs4;have hgw:gs≠w.heap.size:=Loc.ne (l:= []) L3.out rfl (y:=⟨w.heap.size,175,#[.bool leaf',.int .i64 (n':Int),.slice A1 cs'.length c1]⟩) (.inr (by simp)) |>.symm;have hnz:∀b,w.heap.size<=b->¬Z.has b:=fun b h1 h2=>by have:=HZ.out b h2;omega
    have HNZ:=zz hnz;have HB4:=zz hb4;have HS4:=zz hs4;have HLV:Hid (∀wg,Below W4.heap.size W4 wg->Calls prog 176 #[.pointer (some ⟨g,0,none⟩),.agg #[.int .i64 sid,.int .i64 (sat:Int),.bool slf,.int .i64 (sn:Int),.slice A2 scs.length c2],.int .i64 id',.agg #[.bool leaf',.int .i64 (n':Int),.slice A1 cs'.length c1]] wg fun e w'=>∃v,e= .returned v/\Turn Z.has wg w'/\VLev w g Z c R2 gs #[.int .i64 sid,.int .i64 (sat:Int),.bool slf,.int .i64 (sn:Int),.slice A2 scs.length c2] v w'):=fun wg hwg=>by
     have Lg:=L3.out.later hwg;have h1:=zEA (fun b=>(DnF w Z b∨w.heap.size<=b)/\b<wg.heap.size/\¬Z.has b/\b≠gs/\b≠w.heap.size) g Z P' c ⟨sid,sat,slf,sn,scs⟩ (.slice A2 scs.length c2) id' leaf' n' (.slice A1 cs'.length c1) cs' wg Lg.T (fun b h=>⟨h.2.1,h.2.2.1⟩)
      ((Sl.below HCS3.out hwg fun b h=>by have:=h.1;omega).more fun b h=>⟨.inl h,by have:=h.1;have:=hwg.size;omega,h.2,by have:=h.1;omega,by have:=h.1;omega⟩)
      (Lg.c0.more fun b h=>⟨h.1,h.2.1,h.2.2.1,fun e=>h.2.2.2 (by simp [e]),fun e=>h.2.2.2 (by simp [e])⟩) HST.out HU.out HI.out HIN.out
     rw [HR2.out]at h1;refine h1.mono ?_;rintro e w' ⟨A,k,rfl,hcs,hd⟩;refine⟨_,rfl,hd.2.turn,A,k,#[.bool leaf',.int .i64 (n':Int),.slice A1 cs'.length c1],rfl,rfl,?_⟩;have Ld:=(Lg.done hd).sub (cs':= []) (by simp);refine Ld.cons hcs fun b h=> ?_
     have hgl:=Lg.lt ⟨gs,177,#[.int .i64 sid,.int .i64 (sat:Int),.bool slf,.int .i64 (sn:Int),.slice A2 scs.length c2]⟩ (by simp);have hgl2:=Lg.lt ⟨w.heap.size,175,#[.bool leaf',.int .i64 (n':Int),.slice A1 cs'.length c1]⟩ (by simp);simp only at hgl hgl2;have hlg:=Lg.size;refine⟨?_,h.2.1,h.2.2,?_⟩
     .rcases h.1 with h1|h1
      .exact h1.1
      .exact .inr (by omega)
     .simp only [yy,Yx,y9,yH,yp,not_or];rcases h.1 with h1|h1
      .exact⟨h1.2.2.2.1,h1.2.2.2.2⟩
      .exact⟨by omega,by omega⟩
    clear hnz hb4 hs4;have HNG:Hid (∀wg,Turn (trE [TrP.of 6 Z.has,TrP.put 8 w.heap.size 175 3]) W4 wg->Blk wg gs 177 #[.int .i64 sid,.int .i64 (sat:Int),.bool slf,.int .i64 (sn:Int),.slice A2 scs.length c2]):=fun wg h=>HS4.out.turn h (by
     rintro⟨p,hp,hF⟩;simp only [y9,yH,yp]at hp;rcases hp with rfl|rfl
     .exact HNZ.out gs (by have:=(L3.out.b ⟨gs,177,#[.int .i64 sid,.int .i64 (sat:Int),.bool slf,.int .i64 (sn:Int),.slice A2 scs.length c2]⟩ (by simp)).2.1;exact this) hF
     .exact hgw hF)
    have HW4B:Hid (w.heap.size<=W4.heap.size):=L3.out.size;clear hgw;refine z1F [TrP.of 6 Z.has,TrP.put 8 w.heap.size 175 3] (by kernel_rfl) (by kernel_rfl) ?_;apply Exists.intro;apply And.intro
    .repeat(first
      |(apply z1L rfl
        intro K hK;go_simp;refine hK _ ?_;clear hK K)
      |(apply z2M rfl (by kernel_rfl)
        .intro wg hwg _;have hb:=HNG.out wg hwg;have v0:wg.cell? ⟨gs,0,none⟩=some (.int .i64 sid):=hb.cell 0;have v1:wg.cell? ⟨gs,1,none⟩=some (.int .i64 (sat:Int)):=hb.cell 1;have v2:wg.cell? ⟨gs,2,none⟩=some (.bool slf):=hb.cell 2;have v3:wg.cell? ⟨gs,3,none⟩=some (.int .i64 (sn:Int)):=hb.cell 3;have v4:wg.cell? ⟨gs,4,none⟩=some (.slice A2 scs.length c2):=hb.cell 4;unfold z03;go_simp
         first
          |exact z00 _ _
          |(fail)
        intro K hK;go_simp;refine hK _ ?_;clear hK K))
     apply z4Y (c:= .agg #[.bool leaf',.int .i64 (n':Int),.slice A1 cs'.length c1]) rfl (by kernel_rfl)
     .intro wg hwg hf;have hb:Blk wg w.heap.size 175 #[.bool leaf',.int .i64 (n':Int),.slice A1 cs'.length c1]:=HB4.out.turn hwg (zBq (fun p hp=>by
       simp only [y9,yH,yp]at hp;rcases hp with rfl|rfl
       .exact .inr (.inr (HNZ.out _ (y5 _)))
       .exact .inr (.inl (by kernel_rfl))))
      have v0:wg.cell? ⟨w.heap.size,0,none⟩=some (.bool leaf'):=hb.cell 0;have v1:wg.cell? ⟨w.heap.size,1,none⟩=some (.int .i64 (n':Int)):=hb.cell 1;have v2:wg.cell? ⟨w.heap.size,2,none⟩=some (.slice A1 cs'.length c1):=hb.cell 2;clear hb hwg hf;unfold z03;go_simp;exact z00 _ _
     intro K hK;go_simp;refine hK _ ?_;clear hK K;apply z1Z (V:=VLev w g Z c R2 gs #[.int .i64 sid,.int .i64 (sat:Int),.bool slf,.int .i64 (sn:Int),.slice A2 scs.length c2]) (TrP.of 6 Z.has);exact rfl
     kernel_rfl
     .intro wg hwg hf;have hwg2:=z1s (fun p hp=>by simp only [y9,yH,yp]at hp;rcases hp with rfl|rfl;exact .inl rfl;exact .inr (by kernel_rfl)) hwg;clear hwg hf;unfold steps;go_simp;apply z1V;exact HLV.out wg hwg2
     intro xv hxv K hK;obtain⟨wx,hwx,hbx⟩:=hxv;have hbo:=hbx;obtain⟨A6,c6,old6,rfl,_,_⟩:=hbo;go_simp;refine hK _ ?_;clear hK K hbx hwx
     repeat(first
      |(apply z1L rfl
        intro K hK;go_simp;refine hK _ ?_;clear hK K)
      |(apply z2M rfl (by kernel_rfl)
        .intro wg hwg _
         skip
         unfold z03;go_simp
         first
          |exact z00 _ _
          |(fail)
        intro K hK;go_simp;refine hK _ ?_;clear hK K))
     apply z1Z (V:=VBox w g Z c R2) (TrP.put 8 w.heap.size 175 3);exact rfl
     kernel_rfl
     .intro wg hwg hf;have h6:=hf ⟨6,.data⟩ (by simp) rfl _ _ rfl;obtain⟨A,k,old,he,hs,hL⟩:=h6;injection he with he
      injection he with he
      injection he with _ he
      injection he with _ he
      injection he with he _
      injection he with he1 he2 he3
      subst he1;subst he3;have hb:=hL.b1;exact zBn 175 (.tmp 7) (.tmp 35) rfl rfl rfl (by kernel_rfl) (by first|kernel_rfl|simp [Value.oneCell']) hb hs rfl ⟨A6,c6,(hL.turn (l:= [⟨gs,177,#[.int .i64 sid,.int .i64 (sat:Int),.bool slf,.int .i64 (sn:Int),.slice A2 scs.length c2]⟩]) rfl (Blk.setRow hb _) (z5F (z7e _ _ _))).drop (List.sublist_cons_self _ _)⟩
     intro xv hxv K hK;obtain⟨wx,hwx,hbx⟩:=hxv
     skip
     go_simp;refine hK _ ?_;clear hK K hbx hwx;refine z39 (fun wf hE hf=> ?_);have g8:=hf 8 _ _ rfl;clear hf;obtain⟨A8,c8,hL8⟩:=g8;have L8:=zz hL8;have HW8:Hid (Wsl (DnF w Z) wf (.slice (some ⟨bb,oo,none⟩) l2.length c') l2):=by
      have hk:∀b o,DnF w Z b->wf.cell? ⟨b,o,none⟩=W4.cell? ⟨b,o,none⟩:=fun b o hb=>yR (hE.block b (yE hb.1 HW4B.out) (by
       rintro⟨p,hp,hF⟩;simp only [y9,yH,yp]at hp;rcases hp with rfl|rfl
       .exact hb.2 hF
       .have h1:b=w.heap.size:=hF;have h2:=hb.1;omega))
      exact⟨Sl.keep HW3.out.sl hk,fun x hx=>Sl.keep (HW3.out.cs x hx) hk⟩
     obtain⟨P2,lf2,n2,cs2⟩:=R2;simp only at HE1 HUP2 HBIG HSML hL8;have hx8:=hL8.b0;simp only at hx8;have hnx2:=HBIG.out.nx;have hcl2:=HBIG.out.n;simp only at hnx2 hcl2;clear hE hL8 L3 HW3 HLV HNG HB4 HS4 HCS3 HIN HR2;have x0:(wf).cell? ⟨w.heap.size,0,none⟩=some (.bool lf2):=hx8.cell 0;have x1:(wf).cell? ⟨w.heap.size,1,none⟩=some (.int .i64 (n2:Int)):=hx8.cell 1;have x2:(wf).cell? ⟨w.heap.size,2,none⟩=some (.slice A8 cs2.length c8):=hx8.cell 2;clear hx8;go_wp2_with fail
     refine(z3Q _ lf2 (n2:Int) _ cs2 wf (by omega) HBIG.out.mid L8.out.c0).mono ?_;rintro e w9 ⟨rfl,hb9⟩;have L9:=zz (L8.out.later hb9);have HW9:=zz (HW8.out.loc (Ptp.below hb9) L8.out.size);have hx9:=L9.out.b0;simp only at hx9;clear hb9 L8 HW8 x0 x1 x2;have x0:(w9).cell? ⟨w.heap.size,0,none⟩=some (.bool lf2):=hx9.cell 0;have x1:(w9).cell? ⟨w.heap.size,1,none⟩=some (.int .i64 (n2:Int)):=hx9.cell 1;have x2:(w9).cell? ⟨w.heap.size,2,none⟩=some (.slice A8 cs2.length c8):=hx9.cell 2;clear hx9;have hsz2:szP (lf2,n2,cs2)=z2v (n2:Int) cs2:=rfl;by_cases h20:2048<szP (lf2,n2,cs2)
     .have z2:decide ((2048:Int)<(z2v (n2:Int) cs2:Int))=true:=yq (by omega);have HE2:=HE1.out;rw [yB h20]at HE2;have HEE:=zz HE2;obtain⟨hup3,hroot⟩:=HUP2.out h20;rw [ZM]at hroot;have HUP3:=zz hup3;have HRO:=zz hroot;clear hup3 hroot HE2 HE1 HSML HUP2 hsz2;go_wp2_with fail
      refine(zGQ g Z P2 c _ l2 (some ⟨bb,oo,none⟩) c' sid lf2 n2 _ cs2 w9 L9.out.T ⟨Sl.more HW9.out.sl fun b h=>⟨yE h.1 L9.out.size,h.2⟩,fun x hx=>Sl.more (HW9.out.cs x hx) fun b h=>⟨yE h.1 L9.out.size,h.2⟩⟩ L9.out.c0 (fun b h=>h.2.2.1) HBIG.out (fun s hs=>HUP3.out s.1 (by simp only [Zu,yP];exact⟨s,hs,rfl⟩)) HRO.out HST.out.ini (by omega)).mono ?_;rintro e w10 ⟨rfl,hd10⟩;go_wp2_with fail
      refine bodyPost_ret (results_none rfl _ _ _) rfl ?_;rw [HEE.out]at hd10;exact⟨rfl,hd10.1,L9.out.S.trans hd10.2⟩
     .have z2:decide ((2048:Int)<(z2v (n2:Int) cs2:Int))=false:=yZ (by omega);have HE2:=HE1.out;rw [yA h20]at HE2;have RF:Hid (DnwSt w w9 g Z c R (.slice (some ⟨bb,oo,none⟩) l2.length c') l2 sid (lf2,n2,cs2) (.slice A8 cs2.length c8) P2):=⟨L9.out,HW9.out,HSML.out (by omega),HE2⟩;clear HE2 HE1 HSML HUP2 hsz2 L9 HW9;go_wp2_with fail
      go_roundw
      case rel=>exact⟨_,_,l2,sid,_,_,P2,rfl,rfl,by omega,RF⟩
      case measure=>simp [sLen]
    .apply And.intro
     .repeat(first
       |exact trivial
       |(refine⟨z5y _ _,?_⟩)
       |(refine⟨z7C VLev.stays (fun p hp hn hw=>by simp only [y9,yH,yp]at hp;rcases hp with rfl|rfl;exact absurd rfl hn;exact VLev.puts),?_⟩)
       |(refine⟨zIv VBox.stays (i:=6) (by kernel_rfl) (fun p hp=>by simp only [y9,yH,yp]at hp;rcases hp with rfl|rfl;exact .inr rfl;exact .inl rfl),?_⟩)
       )
     .rfl
   .have z1:decide ((z2v (n':Int) cs':Int)<(512:Int))=false:=yZ (by omega);have HE:Hid (finP P' c id' (leaf',n',cs')=R):=by
     have:=HE0.out;rw [z2t,yA hsz]at this;exact this
    have L1:=L2;clear L2 HE0 HK HW2 hszp hsz;have hx:=L1.out.b0;simp only at hx;have x0:(w1).cell? ⟨w.heap.size,0,none⟩=some (.bool leaf'):=hx.cell 0;have x1:(w1).cell? ⟨w.heap.size,1,none⟩=some (.int .i64 (n':Int)):=hx.cell 1;have x2:(w1).cell? ⟨w.heap.size,2,none⟩=some (.slice A1 cs'.length c1):=hx.cell 2;have xf0:(w1).frozen? ⟨w.heap.size,0,none⟩=false:=hx.free 0;have xf1:(w1).frozen? ⟨w.heap.size,1,none⟩=false:=hx.free 1;have xf2:(w1).frozen? ⟨w.heap.size,2,none⟩=false:=hx.free 2;clear hx;by_cases hsp:id'=0/\leaf'=false/\cs'.length=1
    .obtain⟨rfl,rfl,hl1⟩:=hsp;obtain⟨⟨k0,v1⟩,rfl⟩:=QE.1 hl1;have hE:(P'.free (z0F v1)).wp 0 (P'.pgD c (z0F v1))=R:=by
      rw [<-HE.out];unfold finP;rw [yB ⟨rfl,rfl,rfl⟩];rfl
     obtain⟨b1,o1,rfl⟩:=Cs.some L1.out.c0 (by simp);have f:=Cs.get L1.out.c0 (j:=0) (by simp);have f0:w1.cell? ⟨b1,o1,none⟩=some (.string (st k0)):=f.1;have f1:w1.cell? ⟨b1,o1+1,none⟩=some (.string (st v1)):=f.2;have hvl:=HU.out.sm (k0,v1) (by simp);simp only at hvl;obtain⟨⟨lf3,n3,cs3⟩,h3⟩:∃X,P'.pgD c (z0F v1)=X:=⟨_,rfl⟩;have hp3:=z7H P' c (z0F v1);rw [h3]at hp3 hE;have HP3:=zz hp3;have H3:=zz h3;have hc3:=z0m hp3;simp only at hc3;have HEQ:=zz hE;clear f hl1 hp3 hE h3;go_wp2_with fail
     refine(z3S k0 v1 w1 (by omega)).mono ?_;rintro e w2 ⟨rfl,hb2⟩;have L2:=zz (L1.out.later hb2);clear hb2 f0 f1 x0 x1 x2 xf0 xf1 xf2;go_wp2_with fail
     have hrd:=z2n g Z P' c (z0F v1) w2 L2.out.T (z1X _);rw [H3.out]at hrd;refine hrd.mono ?_;clear hrd;rintro e w3 ⟨v,rfl,⟨A3,c3,rfl,hcs3⟩,hb3⟩;have L3:=zz (Loc.call L2.out hb3 hcs3);have hx3:=L3.out.b0;simp only at hx3;have x0:(w3).cell? ⟨w.heap.size,0,none⟩=some (.bool false):=hx3.cell 0;have x1:(w3).cell? ⟨w.heap.size,1,none⟩=some (.int .i64 (n':Int)):=hx3.cell 1;have x2:(w3).cell? ⟨w.heap.size,2,none⟩=some (.slice (some ⟨b1,o1,none⟩) 1 c1):=hx3.cell 2;have xf0:(w3).frozen? ⟨w.heap.size,0,none⟩=false:=hx3.free 0;have xf1:(w3).frozen? ⟨w.heap.size,1,none⟩=false:=hx3.free 1;have xf2:(w3).frozen? ⟨w.heap.size,2,none⟩=false:=hx3.free 2;clear hx3 hcs3 hb3;go_upto_region 10 with(fail)
     have L4:=zz (Loc.put3 (l:= []) L3.out rfl (.bool lf3) (.int .i64 (n3:Int)) (.slice A3 cs3.length c3));clear x0 x1 x2 xf0 xf1 xf2;generalize ((w3.setCell ⟨w.heap.size,0,none⟩ _).setCell ⟨w.heap.size,1,none⟩ _).setCell ⟨w.heap.size,2,none⟩ _=W4 at*;have t0:W4.cell? ⟨g,0,none⟩=some (.pointer (some ⟨Z.g,0,none⟩)):=L4.out.T.blk.cell 0;go_wp2_with fail
     refine(z7G Z P' (z0F v1) W4 L4.out.T.pg (z1X _)).mono ?_;rintro e w5 ⟨he,hd5⟩;obtain⟨n5,hn5⟩:∃n5:Int,(if P'.has (z0F v1)then(0:Int)else 131)=n5:=⟨_,rfl⟩;rw [hn5]at he;subst he;have L5:=zz (L4.out.done (P':=P'.free (z0F v1)) ⟨L4.out.T.done hd5 (Kin.free _ _),hd5.2⟩);have hx5:=L5.out.b0;simp only at hx5;clear hd5 hn5 t0;have x0:(w5).cell? ⟨w.heap.size,0,none⟩=some (.bool lf3):=hx5.cell 0;have x1:(w5).cell? ⟨w.heap.size,1,none⟩=some (.int .i64 (n3:Int)):=hx5.cell 1;have x2:(w5).cell? ⟨w.heap.size,2,none⟩=some (.slice A3 cs3.length c3):=hx5.cell 2;clear hx5;go_wp2_with fail
     refine(z0M g Z (P'.free (z0F v1)) c 0 _ lf3 n3 _ cs3 w5 L5.out.T (by unfold InI;omega) (zFU HP3.out) (by omega) L5.out.c0).mono ?_;rintro e w6 ⟨rfl,hd6⟩;have L6:=zz (L5.out.done hd6);clear hd6;go_wp2_with fail
     go_end0
     have hT:=L6.out.T;rw [HEQ.out]at hT;exact⟨rfl,hT,L6.out.S⟩
    .have HEW:Hid (P'.wp id' (leaf',n',cs')=R):=by
      rw [Hid,<-HE.out];unfold finP;rw [yA hsp]
     by_cases hi0:id'=0
     .have i0:(id'==0)=true:=Z9.2 hi0;have hlf:leaf'=true∨leaf'=false/\cs'.length≠1:=by
       cases leaf' with
       |true=>exact .inl rfl
       |false=>exact .inr ⟨rfl,fun h=>hsp ⟨hi0,rfl,h⟩⟩
      clear hsp hi0;rcases hlf with rfl|⟨rfl,hl1⟩
      .skip
       go_wp2_with fail
       refine(z0M g Z P' c id' _ true n' _ cs' w1 L1.out.T HI.out HU.out.mid (by omega) L1.out.c0).mono ?_;rintro e w6 ⟨rfl,hd6⟩;have L6:=zz (L1.out.done hd6);clear hd6;go_wp2_with fail
       go_end0
       have hT:=L6.out.T;rw [HEW.out]at hT;exact⟨rfl,hT,L6.out.S⟩
      .have l1:((cs'.length:Int)==1)=false:=yV.2 (by omega);go_wp2_with fail
       refine(z0M g Z P' c id' _ false n' _ cs' w1 L1.out.T HI.out HU.out.mid (by omega) L1.out.c0).mono ?_;rintro e w6 ⟨rfl,hd6⟩;have L6:=zz (L1.out.done hd6);clear hd6;go_wp2_with fail
       go_end0
       have hT:=L6.out.T;rw [HEW.out]at hT;exact⟨rfl,hT,L6.out.S⟩
     .have i0:(id'==0)=false:=yV.2 hi0;clear hsp hi0;go_wp2_with fail
      refine(z0M g Z P' c id' _ leaf' n' _ cs' w1 L1.out.T HI.out HU.out.mid (by omega) L1.out.c0).mono ?_;rintro e w6 ⟨rfl,hd6⟩;have L6:=zz (L1.out.done hd6);clear hd6;go_wp2_with fail
      go_end0
      have hT:=L6.out.T;rw [HEW.out]at hT;exact⟨rfl,hT,L6.out.S⟩
end
end Go.Proofs.YthnlcbamjehpdaaGreatDoor
