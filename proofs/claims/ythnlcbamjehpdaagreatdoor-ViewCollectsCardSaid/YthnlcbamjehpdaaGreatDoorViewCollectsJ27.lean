/- Part 27. -/
import Derived.Test.YthnlcbamjehpdaaGreatDoorViewCollectsJ18
import Derived.Test.YthnlcbamjehpdaaGreatDoorViewCollectsJ25
namespace Go.Proofs.YthnlcbamjehpdaaGreatDoor
set_option linter.unusedVariables false
set_option maxHeartbeats 16000000
set_option maxRecDepth 100000
section
open Go Go.RowKit Tryz
section
variable {w w':World} {Z:Pz} {B:Nat}
theorem Blk.ptp{g:Nat}{t:TypeId}{cs:Array Value}(h:Blk w g t cs)(s:Ptp Z w Z w')(hg:¬Z.has g):Blk w' g t cs:=by
 unfold Blk;rw [s.turn.block g h.lt hg];exact h
theorem Cs.newer{v:Value}{cs:List Cel}(h:Cs (fun b=>B<=b/\b<w.heap.size) w v cs)(hb:Below w.heap.size w w'):Cs (fun b=>B<=b/\b<w'.heap.size) w' v cs:=
 (Sl.below h hb fun b h=>h.2).more fun b h=>⟨h.1,yE h.2 hb.size⟩
theorem Tg.put{g z i:Nat}{P:Pgr}{c:Int->List UInt8}{t:TypeId}(T:Tg w g Z P c)(hz:z0G w z=some (some t))(ht:t∉zH1)(hg:z≠g)(h0:z≠0)(u:Value):Tg (w.setCell ⟨z,i,none⟩ u) g Z P c:=
 ⟨T.pg.other hz ht (z0n _ _ _ _),T.blk.far (p:=⟨z,i,none⟩) (fun e=>hg e.symm) u,T.pr,fun k hk=>by
   rw [<-T.bits k hk];exact yR (Yd w ⟨z,i,none⟩ u 0 (fun e=>h0 e.symm)),T.z0⟩
theorem Ptp.put{z i:Nat}(s:Ptp Z w Z w')(h:w.heap.size<=z)(u:Value):Ptp Z w Z (w'.setCell ⟨z,i,none⟩ u):=Ptp.new s (z0n _ _ _ _) (.inr h)
theorem Cs.blkset{v:Value}{cs:List Cel}{S:Nat->Prop}(h:Cs S w v cs){p:Addr}(hp:¬S p.block)(u:Value):Cs S (w.setCell p u) v cs:=Sl.setCell h hp u
end
def z8g(P:Pgr)(L R:Pag):Pgr:=
 (((P.al R).1.al (z4b L L.1 (P.al R).2)).1).wp 0 (false,0,[([],z0C (((P.al R).1.al (z4b L L.1 (P.al R).2)).2)),((cellAt R.2.2 0).1,z0C (P.al R).2)])
theorem zFy(P:Pgr)(x:Pag):z8g P (zB0 x) (zBk x)=z9T P x:=rfl
theorem zEO(P:Pgr)(x:Pag):(P.al x).2<90:=by
 unfold Pgr.al Pgr.alloc
 split
 .exact Nat.zero_lt_succ _
 .split
  .rename_i i hi;unfold Pgr.least at hi;exact yt.1 (yr hi)
  .exact Nat.zero_lt_succ _
def VCs(B:Nat)(cs:List Cel):VP:=fun v w=>∃A c,v= .slice A cs.length c/\Cs (fun b=>B<=b/\b<w.heap.size) w v cs
theorem VCs.ok{B:Nat}(cs:List Cel){F:Nat->Prop}(ic j:Nat)(hF:∀b,F b->b<B):VCo F ic j (VCs B cs):=
 ⟨fun v w w' hb ⟨A,c,e,h⟩=>⟨A,c,e,h.newer hb⟩,fun _ v w w' ht ⟨A,c,e,h⟩=>⟨A,c,e,(Sl.keep h fun b o hs=>yR (ht.block b hs.2 fun e=>by have:=hF b e;omega)).more fun b hb=>⟨hb.1,yE hb.2 ht.size⟩⟩⟩
theorem z1V{P:Program}{f:FuncId}{args:Array Value}{w:World}{S:World->World->Prop}{V:VP}(h:Calls P f args w fun e w'=>∃v,e= .returned v/\S w w'/\V v w'):z0i P w S V (.ok (.enter f args) w):=h
def VPgs(B:Nat)(x:Pag):VP:=fun v w=>PgIs B w v x.1 (x.2.1:Int) x.2.2
theorem VPgs.ok{B:Nat}(x:Pag){F:Nat->Prop}(ic j:Nat)(hF:∀b,F b->b<B):VCo F ic j (VPgs B x):=
 ⟨fun v w w' hb ⟨A,c,e,h⟩=>⟨A,c,e,h.newer hb⟩,fun _ v w w' ht ⟨A,c,e,h⟩=>⟨A,c,e,(Sl.keep h fun b o hs=>yR (ht.block b hs.2 fun e=>by have:=hF b e;omega)).more fun b hb=>⟨hb.1,yE hb.2 ht.size⟩⟩⟩
theorem Cs.turn{w w':World}{F:Nat->Prop}{v:Value}{cs:List Cel}{W:Nat}(h:Cs (fun b=>b<W/\¬F b) w v cs)(t:Turn F w w')(hW:W<=w.heap.size):Cs (fun b=>b<W/\¬F b) w' v cs:=
 Sl.keep h fun b o hs=>yR (t.block b (by omega) hs.2)
def VTg(g:Nat)(Z:Pz)(P:Pgr)(c:Int->List UInt8):VP:=fun v w=>v= .tuple #[]/\Tg w g Z P c
theorem VTg.ok(g:Nat)(Z:Pz)(P:Pgr)(c:Int->List UInt8)(F:Nat->Prop)(ic:Nat):VCo F ic ic (VTg g Z P c):=⟨fun v w w' hb ⟨e,h⟩=>⟨e,h.later hb⟩,fun h=>absurd rfl h⟩
theorem zG0(w:World)(a b:Cel):Cs (fun x=>w.heap.size<=x/\x<(w.alloc (.cells #[.string (st a.1),.string (st a.2),.string (st b.1),.string (st b.2)] 94)).heap.size) (w.alloc (.cells #[.string (st a.1),.string (st a.2),.string (st b.1),.string (st b.2)] 94)) (.slice (some ⟨w.heap.size,0,none⟩) 2 2) [a,b]:=by
 refine⟨rfl,_,2,rfl,by simp,by simp [maxLen],(fun h=>by cases h),fun _=>⟨_,0,rfl,⟨y5 _,by simp⟩,fun j u hu=> ?_⟩⟩;rw [Y4];have:=(Blk.new w 94 #[.string (st a.1),.string (st a.2),.string (st b.1),.string (st b.2)]).cell j;rw [this];simpa [ccs]using hu
theorem zGP(g:Nat)(Z:Pz)(P:Pgr)(c:Int->List UInt8)(S S':Nat->Prop)(leaf leaf':Bool)(n n':Nat)(v0 v1:Value)(cs cs':List Cel)(w:World)(ht:Tg w g Z P c)(hm:Mid cs)(hm':Mid cs')(hn:n<=1000000)(hn':n'<=1000000)(hr:Cs S w v0 cs)(hr':Cs S' w v1 cs')
 (hS:∀b,S b->¬Z.has b) (hS':∀b,S' b->¬Z.has b) (h0:0<cs'.length):
 Calls prog 181 #[.pointer (some ⟨g,0,none⟩),.agg #[.bool leaf,.int .i64 (n:Int),v0],.agg #[.bool leaf',.int .i64 (n':Int),v1]] w fun e w'=>e= .returned (.tuple #[])/\z1O g Z (z8g P (leaf,n,cs) (leaf',n',cs')) c w w':=by
 have HT:=zz ht;have HZ:Hid (∀b,Z.has b->b<w.heap.size):=fun b hb=>ht.pg.lt hb
 have HR:Hid (Cs (fun b=>b<w.heap.size/\¬Z.has b) w v0 cs):=(Sl.lt hr (by omega)).more fun b h=>⟨h.2,hS b h.1⟩
 have HR':Hid (Cs (fun b=>b<w.heap.size/\¬Z.has b) w v1 cs'):=(Sl.lt hr' (by omega)).more fun b h=>⟨h.2,hS' b h.1⟩
 obtain⟨A,c1,rfl,hx0⟩:=hr.at;clear hx0;obtain⟨A',c1',rfl,hx0⟩:=hr'.at;clear hx0;have hb0:Blk ((w.alloc (.cells #[.bool leaf,.int .i64 (n:Int),.slice A cs.length c1] 175)).alloc (.cells #[.bool leaf',.int .i64 (n':Int),.slice A' cs'.length c1'] 175)) w.heap.size 175 #[.bool leaf,.int .i64 (n:Int),.slice A cs.length c1]:=(Blk.new _ _ _).alloc _;have hb1:Blk ((w.alloc (.cells #[.bool leaf,.int .i64 (n:Int),.slice A cs.length c1] 175)).alloc (.cells #[.bool leaf',.int .i64 (n':Int),.slice A' cs'.length c1'] 175)) (w.heap.size+1) 175 #[.bool leaf',.int .i64 (n':Int),.slice A' cs'.length c1']:=Blk.new1 _ _ _ _;have hq:Below w.heap.size w ((w.alloc (.cells #[.bool leaf,.int .i64 (n:Int),.slice A cs.length c1] 175)).alloc (.cells #[.bool leaf',.int .i64 (n':Int),.slice A' cs'.length c1'] 175)):=((y7 _ _).alloc (y5 _) _).alloc (by simp) _;clear ht hr hr';go_enter func181,ntmps181
 generalize hW:((w.alloc (.cells #[.bool leaf,.int .i64 (n:Int),.slice A cs.length c1] 175)).alloc (.cells #[.bool leaf',.int .i64 (n':Int),.slice A' cs'.length c1'] 175))=W at*;have HQ:=zz hq;have HT0:=zz (HT.out.later hq);have HRW:Hid (Cs (fun b=>b<w.heap.size/\¬Z.has b) W (.slice A cs.length c1) cs):=Sl.below HR.out hq fun b h=>h.1
 have HRW':Hid (Cs (fun b=>b<w.heap.size/\¬Z.has b) W (.slice A' cs'.length c1') cs'):=Sl.below HR'.out hq fun b h=>h.1
 have hWs:w.heap.size+1<W.heap.size:=hb1.lt;have HN0:Hid (¬Z.has w.heap.size):=fun e=>Yi _ (HZ.out _ e)
 have HN1:Hid (¬Z.has (w.heap.size+1)):=fun e=>by have:=HZ.out _ e;omega
 have d0:(W).cell? ⟨w.heap.size,0,none⟩=some (.bool leaf):=hb0.cell 0;have d1:(W).cell? ⟨w.heap.size,1,none⟩=some (.int .i64 (n:Int)):=hb0.cell 1;have d2:(W).cell? ⟨w.heap.size,2,none⟩=some (.slice A cs.length c1):=hb0.cell 2;have e0:(W).cell? ⟨w.heap.size+1,0,none⟩=some (.bool leaf'):=hb1.cell 0;have e1:(W).cell? ⟨w.heap.size+1,1,none⟩=some (.int .i64 (n':Int)):=hb1.cell 1;have e2:(W).cell? ⟨w.heap.size+1,2,none⟩=some (.slice A' cs'.length c1'):=hb1.cell 2;have HB0:=zz hb0;have HB1:=zz hb1;clear hq hb0 hb1;go_wp2_with fail
 refine(z3R g Z P c _ leaf' n' _ cs' W HT0.out hm' hn' HRW'.out).mono ?_;rintro e w1 ⟨rfl,ht1,hp1⟩;have hbb:=zEO P (leaf',n',cs');have HPP:Hid (z8g P (leaf,n,cs) (leaf',n',cs')=(((P.al (leaf',n',cs')).1.al (leaf,(if leaf then(P.al (leaf',n',cs')).2 else n),cs)).1).wp 0 (false,0,[([],z0C (((P.al (leaf',n',cs')).1.al (leaf,(if leaf then(P.al (leaf',n',cs')).2 else n),cs)).2)),((cellAt cs' 0).1,z0C (P.al (leaf',n',cs')).2)])):=rfl;generalize (P.al (leaf',n',cs')).2=bi at*;generalize (P.al (leaf',n',cs')).1=P1 at*;have HT1:=zz ht1;have HS1:=zz hp1;have hp1s:=(Ptp.below (Z:=Z) HQ.out).trans hp1;have hb0:=HB0.out.ptp hp1 HN0.out;have hb1:=HB1.out.ptp hp1 HN1.out;have HR1:Hid (Cs (fun b=>b<w.heap.size/\¬Z.has b) w1 (.slice A cs.length c1) cs):=Cs.ptp HRW.out hp1 fun b h=>⟨by omega,h.2⟩
 have HR1':Hid (Cs (fun b=>b<w.heap.size/\¬Z.has b) w1 (.slice A' cs'.length c1') cs'):=Cs.ptp HRW'.out hp1 fun b h=>⟨by omega,h.2⟩
 have hz1:=hb1.lt;clear ht1 hp1 d0 d1 d2 e0 e1 e2;have d0:(w1).cell? ⟨w.heap.size,0,none⟩=some (.bool leaf):=hb0.cell 0;have d1:(w1).cell? ⟨w.heap.size,1,none⟩=some (.int .i64 (n:Int)):=hb0.cell 1;have d2:(w1).cell? ⟨w.heap.size,2,none⟩=some (.slice A cs.length c1):=hb0.cell 2;have df0:(w1).frozen? ⟨w.heap.size,0,none⟩=false:=hb0.free 0;have df1:(w1).frozen? ⟨w.heap.size,1,none⟩=false:=hb0.free 1;have df2:(w1).frozen? ⟨w.heap.size,2,none⟩=false:=hb0.free 2;have HB0:=zz hb0;have HB1:=zz hb1;cases leaf with
 |true=>
  simp only [YN]at HPP;have hs2:=hp1s.put (i:=1) (y5 _) (.int .i64 (bi:Int));have hr2:=Cs.blkset HR1.out (p:=⟨w.heap.size,1,none⟩) (fun h=>Yi _ h.1) (.int .i64 (bi:Int));have hr2':=Cs.blkset HR1'.out (p:=⟨w.heap.size,1,none⟩) (fun h=>Yi _ h.1) (.int .i64 (bi:Int));have hb1':=HB1.out.far (p:=⟨w.heap.size,1,none⟩) (by simp) (.int .i64 (bi:Int));have ht2:=HT1.out.put (i:=1) (z0I HB0.out) (by decide) (fun e=>by have:=HT.out.blk.lt;omega) (fun e=>by have:=HT.out.blk.lt;omega) (.int .i64 (bi:Int));clear HS1 HR1 HR1' HB1 HT1;go_wp2_with fail
  clear HB0 df0 df1 df2 d0 d1 d2;generalize w1.setCell ⟨w.heap.size,1,none⟩ (.int .i64 (bi:Int))=W2 at*;have HS2:=zz hs2;have HR2:=zz hr2;have HR2':=zz hr2';have HB1':=zz hb1';have HT2:=zz ht2;have hbb2:bi<=1000000:=by omega
  clear hs2 hr2 hr2' hb1' ht2;refine(z3R g Z P1 c _ true bi _ cs W2 HT2.out hm (by omega) HR2.out).mono ?_;rintro e w3 ⟨rfl,ht3,hp3⟩;have hbl:=zEO P1 (true,bi,cs);generalize (P1.al (true,bi,cs)).2=li at*;generalize (P1.al (true,bi,cs)).1=P2 at*;have HT3:=zz ht3;have HS3:=zz (HS2.out.trans hp3);have hb1:=HB1'.out.ptp hp3 HN1.out;have HR3:Hid (Cs (fun b=>b<w.heap.size/\¬Z.has b) w3 (.slice A cs.length c1) cs):=Cs.ptp HR2.out hp3 fun b h=>⟨by have:=HB1'.out.lt;omega,h.2⟩
  have HR3':Hid (Cs (fun b=>b<w.heap.size/\¬Z.has b) w3 (.slice A' cs'.length c1') cs'):=Cs.ptp HR2'.out hp3 fun b h=>⟨by have:=HB1'.out.lt;omega,h.2⟩
  obtain⟨bb,oo,rfl⟩:=HR3'.out.some h0;have HB3:=zz hb1;have hcell:=z1A h0;clear ht3 hp3 hb1 HR2 HR2' HS2 HT2 HB1';go_upto_region 5 with(fail)
  obtain⟨k1,hk1⟩:∃k1,k1=cs'[0].1:=⟨_,rfl⟩;have HML:Hid (Mid [([],z0C li),(k1,z0C bi)]):=⟨by simp,fun x hx=>by
   have h1:=hm'.2 _ (yQ h0);rw [<-hk1]at h1;have h2:(z0C li).length<=10:=z09 (by unfold U64;omega);have h3:(z0C bi).length<=10:=z09 (by unfold U64;omega);simp only [y9,yH,yp]at hx;rcases hx with rfl|rfl
   .simp;omega
   .simp only;omega⟩
  rw [hcell,<-hk1]at HPP;have HK1:=zz hk1;clear hk1 hcell;have hws:w.heap.size+1<w3.heap.size:=HB3.out.lt;refine z63 Z.has 12 (by kernel_rfl) (by kernel_rfl) ?_;apply Exists.intro;apply And.intro
  .skip
   iterate 2
    apply z2O rfl rfl
    .intro wg hwg _;unfold z03;go_simp;exact z00 _ _
    intro K hK;go_simp;refine hK _ ?_;clear hK K
   apply z2O (c:= .agg #[.string (st []),.string (st (z0C li))]) rfl rfl
   .intro wg hwg _;unfold z03;go_simp;exact⟨y7 _ _,(z2m [] li wg (by omega)).mono (fun e w' ⟨he,hb⟩=>⟨_,he,hb,rfl⟩)⟩
   intro K hK;go_simp;refine hK _ ?_;clear hK K
   iterate 1
    apply z2O rfl rfl
    .intro wg hwg _;unfold z03;go_simp;exact z00 _ _
    intro K hK;go_simp;refine hK _ ?_;clear hK K
   apply z2O rfl rfl
   .intro wg hwg _;have kb:wg.cell? ⟨w.heap.size+1,2,none⟩=some (.slice (some ⟨bb,oo,none⟩) cs'.length c1'):=(HB3.out.turn hwg HN1.out).cell 2;unfold z03;go_simp;exact z00 _ _
   intro K hK;go_simp;refine hK _ ?_;clear hK K
   iterate 2
    apply z2O rfl rfl
    .intro wg hwg _;unfold z03;go_simp;exact z00 _ _
    intro K hK;go_simp;refine hK _ ?_;clear hK K
   apply z2O rfl rfl
   .intro wg hwg _;have kc:wg.cell? ⟨bb,oo,none⟩=some (.string (st k1)):=by
     have kc:=(Cs.get (HR3'.out.turn hwg (by omega)) h0).1;rw [ZY,YQ,<-HK1.out]at kc;exact kc
    unfold z03;go_simp;exact z00 _ _
   intro K hK;go_simp;refine hK _ ?_;clear hK K
   iterate 1
    apply z2O rfl rfl
    .intro wg hwg _;unfold z03;go_simp;exact z00 _ _
    intro K hK;go_simp;refine hK _ ?_;clear hK K
   apply z2O (c:= .agg #[.string (st k1),.string (st (z0C bi))]) rfl rfl
   .intro wg hwg _;unfold z03;go_simp;exact⟨y7 _ _,(z2m k1 bi wg (by omega)).mono (fun e w' ⟨he,hb⟩=>⟨_,he,hb,rfl⟩)⟩
   intro K hK;go_simp;refine hK _ ?_;clear hK K;apply z7k (V:=VCs w3.heap.size [([],z0C li),(k1,z0C bi)]) rfl rfl
   .intro wg hwg _;unfold z03;go_simp;simp only [z0H];exact⟨(y7 _ _).alloc (y5 _) _,_,_,rfl,(zG0 wg ([],z0C li) (k1,z0C bi)).more fun b h=>⟨yD hwg.size h.1,h.2⟩⟩
   intro xv hxv K hK;obtain⟨wx,_,A9,c9,rfl,h9⟩:=hxv;clear h9;go_simp;refine hK _ ?_;clear hK K;apply z7k (V:=VPgs w3.heap.size (false,0,[([],z0C li),(k1,z0C bi)])) rfl rfl
   .intro wg hwg hf;have h10:=hf ⟨10,.data⟩ (by simp) rfl _ _ rfl;clear hf;unfold z03;go_simp;simp only [z0H];obtain⟨A7,c7,e7,h7⟩:=h10;injection e7 with e7 e8 e9
    subst e7 e9;exact⟨y7 _ _,_,_,rfl,h7⟩
   intro xv hxv K hK;obtain⟨wx,_,A8,c8,rfl,h8⟩:=hxv;clear h8;go_simp;refine hK _ ?_;clear hK K;apply zD6 (V:=VTg g Z (z8g P (true,n,cs) (leaf',n',cs')) c) rfl rfl
   .intro wg hwg hf;have h11:=hf ⟨11,.data⟩ (by simp) rfl _ _ rfl;clear hf;obtain⟨A7,c7,e7,h7⟩:=h11;injection e7 with e7
    injection e7 with e7
    injection e7 with e7 e8
    injection e8 with e8 e9
    injection e9 with e9 e10
    injection e9 with e9 e11 e12
    subst e9 e12;have HH:=zz h7;clear h7;unfold steps;go_simp;apply z1V;rw [HPP.out];exact(z0M g Z P2 c 0 _ false 0 _ _ wg (HT3.out.later hwg) (by unfold InI;omega) HML.out (by omega) HH.out).mono (by rintro e W' ⟨he,h1,h2⟩;exact⟨_,he,h2.turn,rfl,h1⟩)
   intro xv hxv K hK;clear hxv;go_simp;refine hK _ ?_;clear hK K;refine zGr (fun wg hwg hf=> ?_);have htg:=hf 12 _ _ rfl;clear hf;go_wp2_with fail
   go_end0
   exact⟨rfl,htg.2,HS3.out.trans ⟨rfl,rfl,hwg,fun _ h=> .inl h⟩⟩
  .apply And.intro
   .exact⟨VCo.is _ _ _ _,VCo.is _ _ _ _,VCo.is _ _ _ _,VCo.is _ _ _ _,VCo.is _ _ _ _,VCo.is _ _ _ _,VCo.is _ _ _ _,VCo.is _ _ _ _,VCo.is _ _ _ _,VCo.is _ _ _ _,VCs.ok _ _ _ fun b hb=>HT3.out.pg.lt hb,VPgs.ok _ _ _ fun b hb=>HT3.out.pg.lt hb,VTg.ok _ _ _ _ _ _,trivial⟩
   .rfl
 |false=>
  simp only [yu,yv]at HPP;have hs2:=hp1s;have hr2:=HR1.out;have hr2':=HR1'.out;have hb1':=HB1.out;have ht2:=HT1.out;clear HS1 HR1 HR1' HB1 HB0 HT1 df0 df1 df2;go_wp2_with fail
  have HS2:=zz hs2;have HR2:=zz hr2;have HR2':=zz hr2';have HB1':=zz hb1';have HT2:=zz ht2;have hbb2:bi<=1000000:=by omega
  clear hs2 hr2 hr2' hb1' ht2;refine(z3R g Z P1 c _ false n _ cs w1 HT2.out hm (by omega) HR2.out).mono ?_;rintro e w3 ⟨rfl,ht3,hp3⟩;have hbl:=zEO P1 (false,n,cs);generalize (P1.al (false,n,cs)).2=li at*;generalize (P1.al (false,n,cs)).1=P2 at*;have HT3:=zz ht3;have HS3:=zz (HS2.out.trans hp3);have hb1:=HB1'.out.ptp hp3 HN1.out;have HR3:Hid (Cs (fun b=>b<w.heap.size/\¬Z.has b) w3 (.slice A cs.length c1) cs):=Cs.ptp HR2.out hp3 fun b h=>⟨by have:=HB1'.out.lt;omega,h.2⟩
  have HR3':Hid (Cs (fun b=>b<w.heap.size/\¬Z.has b) w3 (.slice A' cs'.length c1') cs'):=Cs.ptp HR2'.out hp3 fun b h=>⟨by have:=HB1'.out.lt;omega,h.2⟩
  obtain⟨bb,oo,rfl⟩:=HR3'.out.some h0;have HB3:=zz hb1;have hcell:=z1A h0;clear ht3 hp3 hb1 HR2 HR2' HS2 HT2 HB1';go_upto_region 5 with(fail)
  obtain⟨k1,hk1⟩:∃k1,k1=cs'[0].1:=⟨_,rfl⟩;have HML:Hid (Mid [([],z0C li),(k1,z0C bi)]):=⟨by simp,fun x hx=>by
   have h1:=hm'.2 _ (yQ h0);rw [<-hk1]at h1;have h2:(z0C li).length<=10:=z09 (by unfold U64;omega);have h3:(z0C bi).length<=10:=z09 (by unfold U64;omega);simp only [y9,yH,yp]at hx;rcases hx with rfl|rfl
   .simp;omega
   .simp only;omega⟩
  rw [hcell,<-hk1]at HPP;have HK1:=zz hk1;clear hk1 hcell;have hws:w.heap.size+1<w3.heap.size:=HB3.out.lt;refine z63 Z.has 12 (by kernel_rfl) (by kernel_rfl) ?_;apply Exists.intro;apply And.intro
  .skip
   iterate 2
    apply z2O rfl rfl
    .intro wg hwg _;unfold z03;go_simp;exact z00 _ _
    intro K hK;go_simp;refine hK _ ?_;clear hK K
   apply z2O (c:= .agg #[.string (st []),.string (st (z0C li))]) rfl rfl
   .intro wg hwg _;unfold z03;go_simp;exact⟨y7 _ _,(z2m [] li wg (by omega)).mono (fun e w' ⟨he,hb⟩=>⟨_,he,hb,rfl⟩)⟩
   intro K hK;go_simp;refine hK _ ?_;clear hK K
   iterate 1
    apply z2O rfl rfl
    .intro wg hwg _;unfold z03;go_simp;exact z00 _ _
    intro K hK;go_simp;refine hK _ ?_;clear hK K
   apply z2O rfl rfl
   .intro wg hwg _;have kb:wg.cell? ⟨w.heap.size+1,2,none⟩=some (.slice (some ⟨bb,oo,none⟩) cs'.length c1'):=(HB3.out.turn hwg HN1.out).cell 2;unfold z03;go_simp;exact z00 _ _
   intro K hK;go_simp;refine hK _ ?_;clear hK K
   iterate 2
    apply z2O rfl rfl
    .intro wg hwg _;unfold z03;go_simp;exact z00 _ _
    intro K hK;go_simp;refine hK _ ?_;clear hK K
   apply z2O rfl rfl
   .intro wg hwg _;have kc:wg.cell? ⟨bb,oo,none⟩=some (.string (st k1)):=by
     have kc:=(Cs.get (HR3'.out.turn hwg (by omega)) h0).1;rw [ZY,YQ,<-HK1.out]at kc;exact kc
    unfold z03;go_simp;exact z00 _ _
   intro K hK;go_simp;refine hK _ ?_;clear hK K
   iterate 1
    apply z2O rfl rfl
    .intro wg hwg _;unfold z03;go_simp;exact z00 _ _
    intro K hK;go_simp;refine hK _ ?_;clear hK K
   apply z2O (c:= .agg #[.string (st k1),.string (st (z0C bi))]) rfl rfl
   .intro wg hwg _;unfold z03;go_simp;exact⟨y7 _ _,(z2m k1 bi wg (by omega)).mono (fun e w' ⟨he,hb⟩=>⟨_,he,hb,rfl⟩)⟩
   intro K hK;go_simp;refine hK _ ?_;clear hK K;apply z7k (V:=VCs w3.heap.size [([],z0C li),(k1,z0C bi)]) rfl rfl
   .intro wg hwg _;unfold z03;go_simp;simp only [z0H];exact⟨(y7 _ _).alloc (y5 _) _,_,_,rfl,(zG0 wg ([],z0C li) (k1,z0C bi)).more fun b h=>⟨yD hwg.size h.1,h.2⟩⟩
   intro xv hxv K hK;obtain⟨wx,_,A9,c9,rfl,h9⟩:=hxv;clear h9;go_simp;refine hK _ ?_;clear hK K;apply z7k (V:=VPgs w3.heap.size (false,0,[([],z0C li),(k1,z0C bi)])) rfl rfl
   .intro wg hwg hf;have h10:=hf ⟨10,.data⟩ (by simp) rfl _ _ rfl;clear hf;unfold z03;go_simp;simp only [z0H];obtain⟨A7,c7,e7,h7⟩:=h10;injection e7 with e7 e8 e9
    subst e7 e9;exact⟨y7 _ _,_,_,rfl,h7⟩
   intro xv hxv K hK;obtain⟨wx,_,A8,c8,rfl,h8⟩:=hxv;clear h8;go_simp;refine hK _ ?_;clear hK K;apply zD6 (V:=VTg g Z (z8g P (false,n,cs) (leaf',n',cs')) c) rfl rfl
   .intro wg hwg hf;have h11:=hf ⟨11,.data⟩ (by simp) rfl _ _ rfl;clear hf;obtain⟨A7,c7,e7,h7⟩:=h11;injection e7 with e7
    injection e7 with e7
    injection e7 with e7 e8
    injection e8 with e8 e9
    injection e9 with e9 e10
    injection e9 with e9 e11 e12
    subst e9 e12;have HH:=zz h7;clear h7;unfold steps;go_simp;apply z1V;rw [HPP.out];exact(z0M g Z P2 c 0 _ false 0 _ _ wg (HT3.out.later hwg) (by unfold InI;omega) HML.out (by omega) HH.out).mono (by rintro e W' ⟨he,h1,h2⟩;exact⟨_,he,h2.turn,rfl,h1⟩)
   intro xv hxv K hK;clear hxv;go_simp;refine hK _ ?_;clear hK K;refine zGr (fun wg hwg hf=> ?_);have htg:=hf 12 _ _ rfl;clear hf;go_wp2_with fail
   go_end0
   exact⟨rfl,htg.2,HS3.out.trans ⟨rfl,rfl,hwg,fun _ h=> .inl h⟩⟩
  .apply And.intro
   .exact⟨VCo.is _ _ _ _,VCo.is _ _ _ _,VCo.is _ _ _ _,VCo.is _ _ _ _,VCo.is _ _ _ _,VCo.is _ _ _ _,VCo.is _ _ _ _,VCo.is _ _ _ _,VCo.is _ _ _ _,VCo.is _ _ _ _,VCs.ok _ _ _ fun b hb=>HT3.out.pg.lt hb,VPgs.ok _ _ _ fun b hb=>HT3.out.pg.lt hb,VTg.ok _ _ _ _ _ _,trivial⟩
   .rfl
end
end Go.Proofs.YthnlcbamjehpdaaGreatDoor
