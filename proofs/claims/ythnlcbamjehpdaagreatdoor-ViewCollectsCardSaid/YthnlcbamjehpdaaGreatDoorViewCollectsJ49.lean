/- Part 49. -/
import Derived.Test.YthnlcbamjehpdaaGreatDoorViewCollectsJ47
import Derived.Test.YthnlcbamjehpdaaGreatDoorViewCollectsJ48
namespace Go.Proofs.YthnlcbamjehpdaaGreatDoor
set_option linter.unusedVariables false
set_option maxHeartbeats 16000000
set_option maxRecDepth 100000
section
open Go Go.RowKit Tryz
theorem zEr{rows:List Rw}{at_:Nat}(hd:∀r∈rows,z0s r.vs at_=0)(key:List UInt8):z0s (z1Y rows key) at_=0:=by
 unfold z1Y
 split
 .rename_i r hr;exact hd r (yr hr)
 .rfl
theorem z8I(er:Nat)(h:er=141∨er=82)(w:World):Calls prog 21 #[.int .i64 (er:Int),.int .i64 10] w fun e w'=>e= .returned (.bool true)/\w'=w:=by
 rcases h with rfl|rfl
 all_goals
  go_enter func21,ntmps21
  go_wp2_with fail
  go_ret
  exact⟨rfl,rfl⟩
def LawS(w wr:World)(gv gs g gl n:Nat):Prop:=∃rows last hor,Vz w wr gv gs g gl n rows last hor fun _=>False
def VLaw(w:World)(gv gs g gl n:Nat):VP:=fun v wg=>(∃er:Nat,v= .int .i64 (er:Int))/\LawS w wg gv gs g gl n
theorem VLaw.stays(w:World)(gv gs g gl n:Nat):Stays (VLaw w gv gs g gl n):=fun v w1 w2 hb ⟨h1,rows,last,hor,h⟩=>⟨h1,rows,last,hor,h.later hb⟩
theorem zII{w w1 w2:World}(h1:Below w.heap.size w w1)(h2:Below w.heap.size w w2)(hz:w1.heap.size<=w2.heap.size):Turn (fun b=>w.heap.size<=b) w1 w2:=
 ⟨h2.os.trans h1.os.symm,h2.tape.trans h1.tape.symm,h2.output.trans h1.output.symm,hz,fun b _ hn=>(h2.block b (by omega)).trans (h1.block b (by omega)).symm⟩
structure TurnS(w wr:World)(gv gs g gl:Nat)(S:Nat->Prop)(wasv:Value)(R:List Cel)(at_ last j:Nat)(rows:List Rw)(hor:Nat):Prop where
 z:Vz w wr gv gs g gl (12+j) rows last hor S
 scan:z2x rows last=R
 was:Cs S wr wasv R
 left:(z0x rows).length+10*j<=132∨((∀r∈rows,z0s r.vs at_=0)/\j<=14)
theorem zAl{rows:List Rw}{at_ j:Nat}(hl:(z0x rows).length+10*j<=132∨((∀r∈rows,z0s r.vs at_=0)/\j<=14))(hn:0<(z1k (z13 10) at_ rows 0).length):
 (z0x (z3W (z13 10) at_ rows 0).1).length+10*(j+1)<=132∨((∀r∈(z3W (z13 10) at_ rows 0).1,z0s r.vs at_=0)/\j+1<=14):=by
 have h1:=z8G (cap:=z13 10) (at_:=at_) rows 0;have h2:=z1n (cap:=z13 10) (at_:=at_) rows 0;have h3:=z5Y (cap:=z13 10) (at_:=at_) rows (yU (z13 10));have h4:z13 10=10:=by decide
 rw [h4]at h1 h2 h3 hn ⊢;rcases hl with hl|⟨hl,-⟩
 .by_cases h:(z1k 10 at_ rows 0).length=10
  .exact .inl (by omega)
  .exact .inr ⟨z6E (by omega),by omega⟩
 .rw [zA2 0 hl]at hn;simp at hn
theorem law_ViewCollects(v0:Value)(xs:List VAct)(at_:Nat)(key:List UInt8)(w:World)(hb:BitsOk w)(ha:VActs w v0 xs)(hat:at_<U64)(hkl:key.length<=9223372036854775807):
 Calls prog 4 #[v0,.int .u64 (at_:Int),.string (st key)] w fun e w'=>e= .returned (.bool true)/\Below w.heap.size w w':=by
 obtain⟨A,c,rfl,hxl,hok,hA⟩:=ha;have HB:=zz hb;have HOK:=zz hok;have HA:=zz hA;clear hok hA;go_enter func4,ntmps4
 go_wp2_with fail
 refine(z6v w hb).mono ?_;rintro e w1 ⟨pd,gv,gs,g,gl,rfl,hx⟩;have HX:=zz hx;clear hx hb;go_wp2_with fail
 refine(z6e w1 (HB.out.later HX.out.below)).mono ?_;rintro e w2 ⟨rfl,hb2⟩;have HX2:=zz (HX.out.later hb2);clear hb2 HX;by_cases hk:300<key.length
 .have e1:(300:Int)<(key.length:Int):=by omega
  clear HOK HA;go_wp2_with fail
  refine(z6e w2 (HB.out.later HX2.out.below)).mono ?_;rintro e w3 ⟨rfl,hb3⟩;have HB3:=zz (HX2.out.below.trans (hb3.mono HX2.out.below.size));go_wp2_with fail
  go_ret
  exact⟨rfl,HB3.out⟩
 have e1:¬ (300:Int)<(key.length:Int):=by omega
 have R0:Hid (LawS w w2 gv gs g gl 0):=⟨_,_,_,HX2.out⟩;clear hk HX2;go_wp2_with fail
 clear e1;go_loopw [10] (fun iv wr=>∃i:Nat,iv= .int .i64 (i:Int)/\i<=xs.length/\i<=12/\Hid (LawS w wr gv gs g gl i)) (fun iv _=>12-(intOf iv).toNat)
 case atStart=>exact⟨0,rfl,yU _,by omega,R0⟩
 case round=>
  clear R0;obtain⟨i,rfl,hi,hi12,RR⟩:=hrel;by_cases hil:i<xs.length/\i<12
  .obtain⟨h1,h2⟩:=hil;obtain⟨rows,last,hor,hz⟩:=RR.out;obtain⟨b,o,rfl,hbs,hc⟩:=HA.out (by omega);have hbw:=hz.below;have hx:=HOK.out _ (yQ h1);have c0:wr.cell? ⟨b,o+i*5,none⟩=some (.int .i64 xs[i].kind):=(hbw.cell (p:=⟨b,o+i*5,none⟩) hbs).trans (hc i h1).1;have c1:wr.cell? ⟨b,o+i*5+1,none⟩=some (.int .i64 xs[i].most):=(hbw.cell (p:=⟨b,o+i*5+1,none⟩) hbs).trans (hc i h1).2.1;have c2:wr.cell? ⟨b,o+i*5+2,none⟩=some (.int .u64 (xs[i].at_:Int)):=(hbw.cell (p:=⟨b,o+i*5+2,none⟩) hbs).trans (hc i h1).2.2.1;have c3:wr.cell? ⟨b,o+i*5+3,none⟩=some xs[i].wv:=(hbw.cell (p:=⟨b,o+i*5+3,none⟩) hbs).trans (hc i h1).2.2.2.1;have c4:wr.cell? ⟨b,o+i*5+4,none⟩=some xs[i].lv:=(hbw.cell (p:=⟨b,o+i*5+4,none⟩) hbs).trans (hc i h1).2.2.2.2;obtain⟨x,hx0⟩:∃x,xs[i]=x:=⟨_,rfl⟩;rw [hx0]at c0 c1 c2 c3 c4 hx;obtain⟨kind,most,at0,ws,left,wv,lv⟩:=x;obtain⟨ik,im,ia,il,iw,is⟩:=hx;simp only at c0 c1 c2 c3 c4 ik im ia il iw is;obtain⟨Aw,cw,rfl,-⟩:=iw.at;obtain⟨Al,cl,rfl,-⟩:=is.at;have HFW:=zz (zF4 _ _ kind most at0 _ _ ws left wr (Sl.below iw hbw fun b h=>h) (Sl.below is hbw fun b h=>h) fun x hx=>by have:=il x hx;omega);have HZ:=zz hz;have him:=im;unfold InI at him;clear hx0 hz hbw hc RR il iw is ik im;go_wp2_with fail
   refine HFW.out.mono ?_;rintro e w4 ⟨v4,AL,nL,cL,rfl,hw4,hb4⟩;obtain⟨A4,c4',rfl,-⟩:=hw4.at;obtain⟨n4,hn4⟩:∃n4,(zIn ws).length=n4:=⟨_,rfl⟩;have HZ4:=zz (HZ.out.later hb4);have HW4:=zz hw4;rw [hn4]at HW4 ⊢;have q4:Below w4.heap.size w4 (w4.alloc (.cells #[.int .i64 kind,.int .i64 most,.int .u64 (at0:Int),.slice A4 n4 c4',.slice AL nL cL] 46)):=(y7 _ _).alloc (y5 _) _;have HX:=zz (Blk.new w4 46 #[.int .i64 kind,.int .i64 most,.int .u64 (at0:Int),.slice A4 n4 c4',.slice AL nL cL]);have HZ5:=zz (HZ4.out.later q4);have HW5:=zz ((Sl.below HW4.out q4 fun b h=>h.2).more (S':=fun _=>True) fun _ _=>trivial);clear hw4 hb4 HFW HZ HZ4 HW4 q4 c0 c1 c2 c3 c4;go_upto_region 8 with(fail)
   generalize hW:w4.alloc (.cells #[.int .i64 kind,.int .i64 most,.int .u64 (at0:Int),.slice A4 n4 c4',.slice AL nL cL] 46)=W at*;clear hW;generalize w4.heap.size=gx at*;have x0:(W).cell? ⟨gx,0,none⟩=some (.int .i64 kind):=HX.out.cell 0;have x1:(W).cell? ⟨gx,1,none⟩=some (.int .i64 most):=HX.out.cell 1;have x2:(W).cell? ⟨gx,2,none⟩=some (.int .u64 (at0:Int)):=HX.out.cell 2;have x3:(W).cell? ⟨gx,3,none⟩=some (.slice A4 n4 c4'):=HX.out.cell 3;have x4:(W).cell? ⟨gx,4,none⟩=some (.slice AL nL cL):=HX.out.cell 4;by_cases hkd:kind=1
   .subst hkd;clear HW5 HX;go_wp2_with fail
    refine(z4T HZ5.out (by omega) at0 most him rfl).mono ?_;rintro e w6 ⟨er,n,rfl,-,-,-,hz6,-,-⟩;have RF:Hid (LawS w w6 gv gs g gl (i+1)):=⟨_,_,_,hz6⟩;clear hz6 HZ5;go_wp2_with fail
    go_roundw
    case rel=>exact⟨i+1,by go_num,by omega,by omega,RF⟩
    case measure=>simp [intOf];omega
   .have e2:(kind==1)=false:=by simpa using hkd
    have hl:=HZ5.out.lasts;have HLA:Hid (∀wg,Below W.heap.size W wg->Calls prog 17 #[.pointer (some ⟨gv,0,none⟩)] wg fun e w'=>e= .returned (.int .u64 (last:Int))/\w'=wg):=fun wg hwg=>z2H (HZ5.out.later hwg).blk rfl
    have HCO:Hid (∀wg,Below W.heap.size W wg->Calls prog 16 #[.pointer (some ⟨gv,0,none⟩),.int .u64 ((last+1:Nat):Int),.slice A4 n4 c4'] wg fun e w'=>∃v,e= .returned v/\Turn (fun b=>w.heap.size<=b) wg w'/\VLaw w gv gs g gl (i+1) v w'):=fun wg hwg=>by
     have hzg:=HZ5.out.later hwg;have hws:Wrs (fun _=>True) wg (.slice A4 n4 c4') (zIn ws):=(Sl.below (Sl.lt HW5.out (by omega)) hwg fun b h=>h.2).more fun _ _=>trivial
     refine(z7h hzg (by omega) _ _ (zIn ws) hws (zEe ws) rfl).mono ?_;rintro e w' ⟨er,rfl,-,hz6,-,hsz⟩;exact⟨_,rfl,zII hzg.below hz6.below hsz,⟨er,rfl⟩,_,_,_,hz6⟩
    have hwr:IntKind.u64.wrap ((last:Int)+1)=((last+1:Nat):Int):=z1a (by omega) (by unfold U64;omega);have HXX:=zz HX.out;clear HX HW5 HZ5 x1 x2 x3 x4;go_wp2_with fail
    refine z1F [TrP.of 6 (fun b=>w.heap.size<=b)] (by kernel_rfl) (by kernel_rfl) ?_;apply Exists.intro;apply And.intro
    .repeat(first
      |(apply z1L rfl
        intro K hK;go_simp;refine hK _ ?_;clear hK K)
      |(apply z2M rfl (by kernel_rfl)
        .intro wg hwg _
         skip
         unfold z03;go_simp
         first
          |exact z00 _ _
          |(fail)
        intro K hK;go_simp;refine hK _ ?_;clear hK K))
     apply z4Y (c:= .int .u64 (last:Int)) rfl (by kernel_rfl)
     .intro wg hwg hf;have hwg2:=z1s (fun p hp=>by simp only [y9,yH,yp]at hp;subst hp;exact .inr (by kernel_rfl)) hwg;unfold z03;go_simp;exact z0Z ((HLA.out wg hwg2).mono fun e w' h=>⟨h.1,h.2▸y7 _ _⟩)
     intro K hK;go_simp;refine hK _ ?_;clear hK K
     repeat(first
      |(apply z1L rfl
        intro K hK;go_simp;refine hK _ ?_;clear hK K)
      |(apply z2M rfl (by kernel_rfl)
        .intro wg hwg _
         skip
         unfold z03;go_simp
         first
          |exact z00 _ _
          |(fail)
        intro K hK;go_simp;refine hK _ ?_;clear hK K))
     apply z4Y (c:= .slice A4 n4 c4') rfl (by kernel_rfl)
     .intro wg hwg hf;have hwg2:=z1s (fun p hp=>by simp only [y9,yH,yp]at hp;subst hp;exact .inr (by kernel_rfl)) hwg;have x3:wg.cell? ⟨gx,3,none⟩=some (.slice A4 n4 c4'):=(HXX.out.later hwg2).cell 3;unfold z03;go_simp;exact z00 _ _
     intro K hK;go_simp;refine hK _ ?_;clear hK K;apply z1Z (V:=VLaw w gv gs g gl (i+1)) (TrP.of 6 (fun b=>w.heap.size<=b));exact rfl
     kernel_rfl
     .intro wg hwg hf;have hwg2:=z1s (fun p hp=>by simp only [y9,yH,yp]at hp;subst hp;exact .inl rfl) hwg;clear hwg hf;unfold steps;go_simp;apply z1V;exact HCO.out wg hwg2
     intro xv hxv K hK;obtain⟨wx,hwx,hbx⟩:=hxv;have hbo:=hbx;obtain⟨⟨er,rfl⟩,_⟩:=hbo;go_simp;refine hK _ ?_;clear hK K hbx hwx;refine z39 (fun w6 hE hf=> ?_);have h6:VLaw w gv gs g gl (i+1) (.int .i64 (er:Int)) w6:=hf 6 _ _ rfl;have RF:=zz h6.2;clear hE hf h6 HLA HCO HXX;go_wp2_with fail
     go_roundw
     case rel=>exact⟨i+1,by go_num,by omega,by omega,RF⟩
     case measure=>simp [intOf];omega
    .apply And.intro
     .repeat(first
       |exact trivial
       |(refine⟨z5y _ _,?_⟩)
       |(refine⟨z7C (VLaw.stays w gv gs g gl (i+1)) (fun p hp hn hw=>by obtain rfl:=yJ.1 hp;exact absurd rfl hn),?_⟩)
       )
     .rfl
  .have hlv:i=xs.length∨(i<xs.length/\i=12):=by omega
   obtain⟨rows,last,hor,hz⟩:=RR.out;have hcel:=hz.cells;have hlast:=hz.lasts;have HZ:=zz hz;clear RR hz hil;rcases hlv with rfl|⟨h1,rfl⟩
   .go_wp2_with fail
    refine(z3w wr).mono ?_;rintro e w3 ⟨rfl,hb3⟩;have HZ3:=zz (HZ.out.later hb3);clear hb3 HZ;go_wp2_with fail
    refine(z2H HZ3.out.blk rfl).mono ?_;rintro e w4 ⟨rfl,rfl⟩;obtain⟨tl,hv⟩:=HZ3.out.vv (by omega);have HSC:=zz (z4B hv (by omega) (by unfold U64;omega) last hlast.1 (y5 _) rfl);clear hv;go_wp2_with fail
    refine HSC.out.mono ?_;rintro e w5 ⟨A5,c5,rfl,hcs,hb5⟩;obtain⟨R,hR⟩:∃R,z2x rows last=R:=⟨_,rfl⟩;rw [hR]at hcs ⊢;have T0:Hid (TurnS w w5 gv gs g gl (fun b=>w4.heap.size<=b/\b<w5.heap.size) (.slice A5 R.length c5) R at_ last 0 rows hor):=by
     obtain⟨Z,P,l,tl,x,h⟩:=HZ3.out.keep hb5;exact⟨⟨Z,P,l,tl,x.more (by omega),h⟩,hR,hcs,.inl (by omega)⟩
    clear hcs hb5 hR HSC HZ3 hcel;go_wp2_with fail
    generalize (fun b=>w4.heap.size<=b/\b<w5.heap.size)=S at*;go_loopw [14] (fun jv wr=>∃ (j:Nat) (rows:List Rw) (hor:Nat),jv= .int .i64 (j:Int)/\Hid (TurnS w wr gv gs g gl S (.slice A5 R.length c5) R at_ last j rows hor)) (fun jv _=>30-(intOf jv).toNat)
    case atStart=>exact⟨0,rows,hor,rfl,T0⟩
    case round=>
     clear T0;obtain⟨j,rows,hor,rfl,RR⟩:=hrel;have hj:j<=14:=by
      rcases RR.out.left with h|h<;>omega
     have HT:=zz RR.out;have HC:=zz (z4T RR.out.z (by omega) at_ 10 (by omega) rfl);clear RR;go_wp2_with fail
     refine HC.out.mono ?_;rintro e w6 ⟨er,n,rfl,hn,hor2,-,hz,hkp,-⟩;by_cases he:er=0
     .subst he;replace hn:=hn rfl;obtain⟨h1,h2,hn⟩:=hn;rw [yB rfl,yB rfl]at hz;have hsc:z2x (z3W (z13 10) at_ rows 0).1 last=R:=(z9Y h2 rows 0).trans HT.out.scan;have hwas:Cs S w6 (.slice A5 R.length c5) R:=Sl.keep HT.out.was fun b o hb=>yR (hkp b hb)
      by_cases h0:0<n
      .have RF:Hid (TurnS w w6 gv gs g gl S (.slice A5 R.length c5) R at_ last (j+1) (z3W (z13 10) at_ rows 0).1 at_):=⟨hz,hsc,hwas,zAl HT.out.left (hn▸h0)⟩;have e2:decide ((0:Int)<(n:Int))=true:=yq (by omega);have e7:decide (0<n)=true:=yq h0;clear hz hsc hwas hn HT HC hor2 hkp;go_wp2_with fail
       go_roundw
       case rel=>exact⟨j+1,_,_,by go_num,RF⟩
       case measure=>simp [intOf];omega
      .have e2:decide ((0:Int)<(n:Int))=false:=yZ (by omega);have e7:decide (0<n)=false:=yZ h0;have hd:∀r∈(z3W (z13 10) at_ rows 0).1,z0s r.vs at_=0:=z6E (by
        have h4:z13 10=10:=by decide
        have h5:=z1n (cap:=z13 10) (at_:=at_) rows 0;omega)
       obtain⟨rs,hrs⟩:∃rs,(z3W (z13 10) at_ rows 0).1=rs:=⟨_,rfl⟩;rw [hrs]at hz hsc hd;obtain⟨tl,hv⟩:=hz.vv (by omega);have hc6:=hz.cells;obtain⟨ha1,HDN⟩:=zA7 (z7S hz.ok key) (zEr hd key);have HDN:=zz HDN;have HVE:=zz (z2X hv (by omega) key hkl rfl);have HZ6:=zz hz;have HSC:=zz hsc;have HWA:=zz (Sl.lt hwas (by omega));obtain⟨vs,hvs⟩:∃vs,z1Y rs key=vs:=⟨_,rfl⟩;obtain⟨a,ha⟩:∃a,z0O vs at_=a:=⟨_,rfl⟩;rw [hvs]at HDN HVE ha1;rw [ha]at HDN ha1;clear hz hsc hwas hn HT HC hor2 hkp hv hd hrs hvs ha;go_wp2_with fail
       refine HVE.out.mono ?_;rintro e w7 ⟨A7,c7,rfl,hvs7,hb7⟩;have HZ7:=zz (HZ6.out.later hb7);have HWA7:=zz ((Sl.below HWA.out hb7 fun b h=>h.2).more (S':=fun b=>b<w7.heap.size) fun b h=>yE h.2 hb7.size);obtain⟨_,_,hva,hvn,hvm,-,hcv⟩:=hvs7.at;injection hva with hva1 _ hva2
       subst hva1 hva2;have HCV:=zz hcv;have hvl:vs.length<=9223372036854775807:=by unfold maxLen at hvm;omega
       clear hvs7 hb7 hcv HVE HZ6 HWA;go_wp2_with fail
       go_loopw [18,19] (fun ov kv wr=>∃k:Nat,ov= .int .i64 ((min k a:Nat):Int)/\kv= .int .i64 (k:Int)/\k<=vs.length/\wr=w7) (fun _ kv _=>vs.length-(intOf kv).toNat)
       case atStart=>exact⟨0,by simp,rfl,yU _,rfl⟩
       case round=>
        obtain⟨k,rfl,rfl,hk,rfl⟩:=hrel;by_cases hkl2:k<vs.length
        .obtain⟨b,o,rfl,-,hc⟩:=HCV.out (by omega);have c0:=(hc k hkl2).1;have c2:=(hc k hkl2).2.2;have hdk:=HDN.out k hkl2;obtain⟨x,hx⟩:∃x,vs[k]=x:=⟨_,rfl⟩;rw [hx]at c0 c2 hdk;have hib:(0:Int)<=(k:Int):=by omega
         clear hx hc;by_cases hka:k<a
         .have e3:(x.t:Int)<=(at_:Int):=by have:=hdk.1.2 hka;omega
          have e4:x.gone=false:=hdk.2 hka;have e5:min k a=k:=by omega
          have e6:IntKind.i64.wrap (((min k a:Nat):Int)+1)=((min (k+1) a:Nat):Int):=by rw [YB _ (by omega)];omega
          rw [e4]at c2;clear hdk e4 e5;go_wp2_with fail
          go_roundw
          case rel=>exact⟨k+1,rfl,by go_num,by omega,by first|exact rfl|trivial⟩
          case measure=>simp [intOf];omega
         .have e3:¬ (x.t:Int)<=(at_:Int):=by have:=fun h=>hka (hdk.1.1 h);omega
          have e5:min (k+1) a=min k a:=by omega
          clear hdk;go_wp2_with fail
          go_roundw
          case rel=>exact⟨k+1,by rw [e5],by go_num,by omega,by first|exact rfl|trivial⟩
          case measure=>simp [intOf];omega
        .obtain rfl:k=vs.length:=by omega
         have hka:min vs.length a<=1:=by omega
         generalize min vs.length a=m at*;clear HCV HDN;go_wp2_with fail
         refine(z3w wr).mono ?_;rintro e w8 ⟨rfl,hb8⟩;have HZ8:=zz (HZ7.out.later hb8);have HWA8:=zz ((Sl.below HWA7.out hb8 fun b h=>h).more (S':=fun b=>b<w8.heap.size) fun b h=>yE h hb8.size);clear hb8 HZ7 HWA7;go_wp2_with fail
         refine(z2H HZ8.out.blk rfl).mono ?_;rintro e w9 ⟨rfl,rfl⟩;obtain⟨tl,hv⟩:=HZ8.out.vv (by omega);have HS8:=zz (z4B hv (by omega) (by unfold U64;omega) last h2 (y5 _) rfl);rw [HSC.out]at HS8;clear hv;go_wp2_with fail
         refine HS8.out.mono ?_;rintro e wb ⟨Ab,cb,rfl,hcb,hbb⟩;have hsm:=z5i _ _ _ _ R R wb (Sl.below HWA8.out hbb fun b h=>h) hcb;rw [yq (rfl:R=R)]at hsm;have HSM:=zz hsm;have HZB:=zz (HZ8.out.later hbb).below;clear hcb hbb HS8 HZ8 HWA8 hsm;go_wp2_with fail
         refine HSM.out.mono ?_;rintro e wc ⟨rfl,hbc⟩;have HF:=zz (HZB.out.trans (hbc.mono HZB.out.size));clear hbc HSM HZB;go_wp2_with fail
         go_ret
         exact⟨rfl,HF.out⟩
     .have e2:((er:Int) != 0)=true:=by rw [Yn];omega
      rw [yA he,yA he]at hz;have HZ6:=zz hz;clear hz hkp HT HC hn;go_wp2_with fail
      refine(z2H HZ6.out.blk rfl).mono ?_;rintro e w7 ⟨rfl,rfl⟩;by_cases c1:last<at_
      .have e3:(last:Int)<(at_:Int):=by omega
       go_wp2_with fail
       go_ret
       exact⟨rfl,HZ6.out.below⟩
      .have e3:¬ (last:Int)<(at_:Int):=by omega
       go_wp2_with fail
       refine(z9k HZ6.out.blk rfl).mono ?_;rintro e w8 ⟨rfl,rfl⟩;by_cases c2:at_<hor
       .have e4:(at_:Int)<(hor:Int):=by omega
        go_wp2_with fail
        go_ret
        exact⟨rfl,HZ6.out.below⟩
       .have e4:¬ (at_:Int)<(hor:Int):=by omega
        go_wp2_with fail
        refine(z8I er (by omega) w8).mono ?_;rintro e w9 ⟨rfl,rfl⟩;go_wp2_with fail
        go_ret
        exact⟨rfl,HZ6.out.below⟩
   .go_wp2_with fail
    refine(z3w wr).mono ?_;rintro e w3 ⟨rfl,hb3⟩;have HZ3:=zz (HZ.out.later hb3);clear hb3 HZ;go_wp2_with fail
    refine(z2H HZ3.out.blk rfl).mono ?_;rintro e w4 ⟨rfl,rfl⟩;obtain⟨tl,hv⟩:=HZ3.out.vv (by omega);have HSC:=zz (z4B hv (by omega) (by unfold U64;omega) last hlast.1 (y5 _) rfl);clear hv;go_wp2_with fail
    refine HSC.out.mono ?_;rintro e w5 ⟨A5,c5,rfl,hcs,hb5⟩;obtain⟨R,hR⟩:∃R,z2x rows last=R:=⟨_,rfl⟩;rw [hR]at hcs ⊢;have T0:Hid (TurnS w w5 gv gs g gl (fun b=>w4.heap.size<=b/\b<w5.heap.size) (.slice A5 R.length c5) R at_ last 0 rows hor):=by
     obtain⟨Z,P,l,tl,x,h⟩:=HZ3.out.keep hb5;exact⟨⟨Z,P,l,tl,x.more (by omega),h⟩,hR,hcs,.inl (by omega)⟩
    clear hcs hb5 hR HSC HZ3 hcel;go_wp2_with fail
    generalize (fun b=>w4.heap.size<=b/\b<w5.heap.size)=S at*;go_loopw [14] (fun jv wr=>∃ (j:Nat) (rows:List Rw) (hor:Nat),jv= .int .i64 (j:Int)/\Hid (TurnS w wr gv gs g gl S (.slice A5 R.length c5) R at_ last j rows hor)) (fun jv _=>30-(intOf jv).toNat)
    case atStart=>exact⟨0,rows,hor,rfl,T0⟩
    case round=>
     clear T0;obtain⟨j,rows,hor,rfl,RR⟩:=hrel;have hj:j<=14:=by
      rcases RR.out.left with h|h<;>omega
     have HT:=zz RR.out;have HC:=zz (z4T RR.out.z (by omega) at_ 10 (by omega) rfl);clear RR;go_wp2_with fail
     refine HC.out.mono ?_;rintro e w6 ⟨er,n,rfl,hn,hor2,-,hz,hkp,-⟩;by_cases he:er=0
     .subst he;replace hn:=hn rfl;obtain⟨h1,h2,hn⟩:=hn;rw [yB rfl,yB rfl]at hz;have hsc:z2x (z3W (z13 10) at_ rows 0).1 last=R:=(z9Y h2 rows 0).trans HT.out.scan;have hwas:Cs S w6 (.slice A5 R.length c5) R:=Sl.keep HT.out.was fun b o hb=>yR (hkp b hb)
      by_cases h0:0<n
      .have RF:Hid (TurnS w w6 gv gs g gl S (.slice A5 R.length c5) R at_ last (j+1) (z3W (z13 10) at_ rows 0).1 at_):=⟨hz,hsc,hwas,zAl HT.out.left (hn▸h0)⟩;have e2:decide ((0:Int)<(n:Int))=true:=yq (by omega);have e7:decide (0<n)=true:=yq h0;clear hz hsc hwas hn HT HC hor2 hkp;go_wp2_with fail
       go_roundw
       case rel=>exact⟨j+1,_,_,by go_num,RF⟩
       case measure=>simp [intOf];omega
      .have e2:decide ((0:Int)<(n:Int))=false:=yZ (by omega);have e7:decide (0<n)=false:=yZ h0;have hd:∀r∈(z3W (z13 10) at_ rows 0).1,z0s r.vs at_=0:=z6E (by
        have h4:z13 10=10:=by decide
        have h5:=z1n (cap:=z13 10) (at_:=at_) rows 0;omega)
       obtain⟨rs,hrs⟩:∃rs,(z3W (z13 10) at_ rows 0).1=rs:=⟨_,rfl⟩;rw [hrs]at hz hsc hd;obtain⟨tl,hv⟩:=hz.vv (by omega);have hc6:=hz.cells;obtain⟨ha1,HDN⟩:=zA7 (z7S hz.ok key) (zEr hd key);have HDN:=zz HDN;have HVE:=zz (z2X hv (by omega) key hkl rfl);have HZ6:=zz hz;have HSC:=zz hsc;have HWA:=zz (Sl.lt hwas (by omega));obtain⟨vs,hvs⟩:∃vs,z1Y rs key=vs:=⟨_,rfl⟩;obtain⟨a,ha⟩:∃a,z0O vs at_=a:=⟨_,rfl⟩;rw [hvs]at HDN HVE ha1;rw [ha]at HDN ha1;clear hz hsc hwas hn HT HC hor2 hkp hv hd hrs hvs ha;go_wp2_with fail
       refine HVE.out.mono ?_;rintro e w7 ⟨A7,c7,rfl,hvs7,hb7⟩;have HZ7:=zz (HZ6.out.later hb7);have HWA7:=zz ((Sl.below HWA.out hb7 fun b h=>h.2).more (S':=fun b=>b<w7.heap.size) fun b h=>yE h.2 hb7.size);obtain⟨_,_,hva,hvn,hvm,-,hcv⟩:=hvs7.at;injection hva with hva1 _ hva2
       subst hva1 hva2;have HCV:=zz hcv;have hvl:vs.length<=9223372036854775807:=by unfold maxLen at hvm;omega
       clear hvs7 hb7 hcv HVE HZ6 HWA;go_wp2_with fail
       go_loopw [18,19] (fun ov kv wr=>∃k:Nat,ov= .int .i64 ((min k a:Nat):Int)/\kv= .int .i64 (k:Int)/\k<=vs.length/\wr=w7) (fun _ kv _=>vs.length-(intOf kv).toNat)
       case atStart=>exact⟨0,by simp,rfl,yU _,rfl⟩
       case round=>
        obtain⟨k,rfl,rfl,hk,rfl⟩:=hrel;by_cases hkl2:k<vs.length
        .obtain⟨b,o,rfl,-,hc⟩:=HCV.out (by omega);have c0:=(hc k hkl2).1;have c2:=(hc k hkl2).2.2;have hdk:=HDN.out k hkl2;obtain⟨x,hx⟩:∃x,vs[k]=x:=⟨_,rfl⟩;rw [hx]at c0 c2 hdk;have hib:(0:Int)<=(k:Int):=by omega
         clear hx hc;by_cases hka:k<a
         .have e3:(x.t:Int)<=(at_:Int):=by have:=hdk.1.2 hka;omega
          have e4:x.gone=false:=hdk.2 hka;have e5:min k a=k:=by omega
          have e6:IntKind.i64.wrap (((min k a:Nat):Int)+1)=((min (k+1) a:Nat):Int):=by rw [YB _ (by omega)];omega
          rw [e4]at c2;clear hdk e4 e5;go_wp2_with fail
          go_roundw
          case rel=>exact⟨k+1,rfl,by go_num,by omega,by first|exact rfl|trivial⟩
          case measure=>simp [intOf];omega
         .have e3:¬ (x.t:Int)<=(at_:Int):=by have:=fun h=>hka (hdk.1.1 h);omega
          have e5:min (k+1) a=min k a:=by omega
          clear hdk;go_wp2_with fail
          go_roundw
          case rel=>exact⟨k+1,by rw [e5],by go_num,by omega,by first|exact rfl|trivial⟩
          case measure=>simp [intOf];omega
        .obtain rfl:k=vs.length:=by omega
         have hka:min vs.length a<=1:=by omega
         generalize min vs.length a=m at*;clear HCV HDN;go_wp2_with fail
         refine(z3w wr).mono ?_;rintro e w8 ⟨rfl,hb8⟩;have HZ8:=zz (HZ7.out.later hb8);have HWA8:=zz ((Sl.below HWA7.out hb8 fun b h=>h).more (S':=fun b=>b<w8.heap.size) fun b h=>yE h hb8.size);clear hb8 HZ7 HWA7;go_wp2_with fail
         refine(z2H HZ8.out.blk rfl).mono ?_;rintro e w9 ⟨rfl,rfl⟩;obtain⟨tl,hv⟩:=HZ8.out.vv (by omega);have HS8:=zz (z4B hv (by omega) (by unfold U64;omega) last h2 (y5 _) rfl);rw [HSC.out]at HS8;clear hv;go_wp2_with fail
         refine HS8.out.mono ?_;rintro e wb ⟨Ab,cb,rfl,hcb,hbb⟩;have hsm:=z5i _ _ _ _ R R wb (Sl.below HWA8.out hbb fun b h=>h) hcb;rw [yq (rfl:R=R)]at hsm;have HSM:=zz hsm;have HZB:=zz (HZ8.out.later hbb).below;clear hcb hbb HS8 HZ8 HWA8 hsm;go_wp2_with fail
         refine HSM.out.mono ?_;rintro e wc ⟨rfl,hbc⟩;have HF:=zz (HZB.out.trans (hbc.mono HZB.out.size));clear hbc HSM HZB;go_wp2_with fail
         go_ret
         exact⟨rfl,HF.out⟩
     .have e2:((er:Int) != 0)=true:=by rw [Yn];omega
      rw [yA he,yA he]at hz;have HZ6:=zz hz;clear hz hkp HT HC hn;go_wp2_with fail
      refine(z2H HZ6.out.blk rfl).mono ?_;rintro e w7 ⟨rfl,rfl⟩;by_cases c1:last<at_
      .have e3:(last:Int)<(at_:Int):=by omega
       go_wp2_with fail
       go_ret
       exact⟨rfl,HZ6.out.below⟩
      .have e3:¬ (last:Int)<(at_:Int):=by omega
       go_wp2_with fail
       refine(z9k HZ6.out.blk rfl).mono ?_;rintro e w8 ⟨rfl,rfl⟩;by_cases c2:at_<hor
       .have e4:(at_:Int)<(hor:Int):=by omega
        go_wp2_with fail
        go_ret
        exact⟨rfl,HZ6.out.below⟩
       .have e4:¬ (at_:Int)<(hor:Int):=by omega
        go_wp2_with fail
        refine(z8I er (by omega) w8).mono ?_;rintro e w9 ⟨rfl,rfl⟩;go_wp2_with fail
        go_ret
        exact⟨rfl,HZ6.out.below⟩
end
end Go.Proofs.YthnlcbamjehpdaaGreatDoor
