/- Part 44. -/
import Derived.Test.YthnlcbamjehpdaaGreatDoorViewCollectsJ43
namespace Go.Proofs.YthnlcbamjehpdaaGreatDoor
set_option linter.unusedVariables false
set_option maxHeartbeats 16000000
set_option maxRecDepth 100000
section
open Go Go.RowKit Tryz
set_option linter.unusedSimpArgs false
theorem z67{P:Program}(w:World)(g:Nat)(t ty:TypeId)(old cells:Array Value)(v:Value)(hv:v.cells=cells)(hg:w.heap[g]? =some (.cells old t (0,0)))(hi:(P.info? ty).map (·.size)=some cells.size)
 (ho:old.size=cells.size) (h1:cells.all (·.oneCell')=true):
 (storeVar ty ⟨g,0,none⟩ v).run P w= .ok () (w.setRow g cells):=by
 have:=run_storeVar_row (P:=P) w g t ty old cells hg hi ho h1;have e:storeVar ty ⟨g,0,none⟩ v=storeVar ty ⟨g,0,none⟩ (.agg cells):=by
  unfold storeVar;rw [hv];rfl
 rw [e];exact this
section
variable {P:Program} {ops:Array Oper} {st:List TrP} {w0:World}
variable {Q:Act->World->Prop} {a:Act} {o:Oper} {rest:List Oper} {Ds:List DP} {env:List (Value×VP)}
theorem zGv(k:Nat)(C:(Nat->Value)->Array Value){t:TypeId}{s0 g:Nat}{cs:Array Value}{v:Value}(hw:Region.wanted o (yielded ops a.tmps)=true)(hs:st.find? (fun p=>p.i==env.length)=some (TrP.new env.length t s0))(ty:TypeId)(x y:Operand)(ho:o.op= .store ty x y)
 (hx:a.eval x= .pointer (some ⟨g,0,none⟩)) (hy:a.eval y=v) (hvc:v.cells=cs) (hi:(P.info? ty).map (·.size)=some cs.size) (h1:cs.all (·.oneCell')=true) (hk:yOf env k= .pointer (some ⟨g,0,none⟩)) (hC:C (yOf env)=cs)
 (hv:∀w,(∀e∈o.after,Region.binds .any e=true->∀ (x:Value) (W:VP),env[e.on]? =some (x,W)->W x w)->VNew t cs.size s0 (.pointer (some ⟨g,0,none⟩)) w)
 (h2:(∃w,Turn (trE st) w0 w/\Blk w g t cs)->∀K:Act->Prop,(∀a',z21 P ops (trR ops st w0) Q rest Ds (env++ [(undef,HasB g t s0 cs)]) a'->K a')->K (a.put o.dst undef)):z21 P ops (trR ops st w0) Q (o::rest) (DSet k t s0 C::Ds) env a:=by
 rw [<-DSet.has hk hC]at h2;refine⟨?_,fun x ⟨w,hT,hx⟩=> ?_⟩
 .rw [yB hw];intro w hT hf;obtain⟨g',e',h4,ds,h5,h6⟩:=hv w hf;injection e' with e'
  injection e' with e'
  injection e' with e'
  subst e';have eS:(trR ops st w0).S env.length=PutNew t s0:=by funext w w';simp only [trR,zGO,hs,TrP.new]
  rw [eS];have hrun:(execOp a.eval o).run P w= .ok .skip (w.setRow g cs):=by
   unfold execOp;simp only [ho,hx,hy,Instr.storeAt,Instr.sureAddr,ZV,ZW,Ym,z67 w g t ty ds cs v hvc h5 hi h6 h1]
  unfold steps;rw [hrun];exact⟨⟨g,ds,cs,h4,h5,h6.symm,rfl⟩,rfl,g,hk,h4,by rw [hC];exact h5.setRow cs⟩
 .obtain⟨rfl,g',e',_,hb⟩:=hx;rw [hk]at e';injection e' with e'
  injection e' with e'
  injection e' with e'
  subst e';rw [hC]at hb;exact h2 ⟨w,hT,hb⟩ _ fun _ h=>h
end
theorem VRow.putNew{B:Nat}{e t:TypeId}{size n:Nat}{xs:List Value}{ob:Option Nat}{s0 s1:Nat}(hne:e≠t):z2N (PutNew t s1) (VRow B e size n xs ob s0):=fun v w w' ⟨g',ds,ds',h5,h6,h7,he⟩ h=>by
 subst he;exact⟨h.1,z2V h.2.1 (z7e w g' ds') fun g hg e2=>z31 h.2.1 h6 hne (by have h3:g=g':=e2;rw [<-h3];exact hg),h.2.2⟩
def zB3(AP:Nat->World->Prop)(gv:Nat)(cs:Array Value)(at_ n:Nat)(e:Ending)(w':World):Prop:=
 ∃er w1,AP er w1/\Blk w1 gv 99 cs/\(er≠0->e= .returned (.tuple #[.int .i64 0,.int .i64 (er:Int)])/\w'=w1)/\(er=0->e= .returned (.tuple #[.int .i64 (n:Int),.int .i64 0])/\w'=w1.setCell ⟨gv,2,none⟩ (.int .u64 (at_:Int)))
def tupW(v:Value)(i:Nat):Value:=match v with| .tuple vs=>vs.getD i undef|_=>undef
def VCol(AP:Nat->World->Prop)(w0 w4:World)(gv:Nat)(cs:Array Value):VP:=fun v wg=>∃n er:Nat,v= .tuple #[.int .u64 (n:Int),.int .i64 (er:Int)]/\AP er wg/\Blk wg gv 99 cs/\Turn (fun b=>b<w0.heap.size) w4 wg
theorem VCol.stays{AP:Nat->World->Prop}{w0 w4:World}{gv:Nat}{cs:Array Value}(hst:∀er w1 w2,Below w1.heap.size w1 w2->AP er w1->AP er w2):Stays (VCol AP w0 w4 gv cs):=fun v w1 w2 hb ⟨n,er,h1,h2,h3,h4⟩=>
 ⟨n,er,h1,hst er w1 w2 hb h2,h3.later hb,h4.trans (Turn.of_below hb) fun b h=> .inl h⟩
theorem zAp{w:World}{gv gs g:Nat}{rows:List Rw}{tl:List Cel}{last hor:Nat}(h:Vv w gv gs g rows tl last hor)(hfew:(z0x rows).length<=100000)(hl:last<U64)(at_:Nat)(h1:hor<=at_)(h2:at_<=last)(many:Int)(hm: -9223372036854775808<=many/\many<=9223372036854775807)
 (AP:Nat->World->Prop) (hst:∀er w1 w2,Below w1.heap.size w1 w2->AP er w1->AP er w2) (hap:∀wg v0,Below w.heap.size w wg->Ch (fun b=>w.heap.size<=b/\b<wg.heap.size) wg v0 (z3z last (z13 many) at_ rows)->Calls prog 43 #[.pointer (some ⟨gs,0,none⟩),v0] wg fun e w'=>∃n er:Nat,e= .returned (.tuple #[.int .u64 (n:Int),.int .i64 (er:Int)])/\AP er w'/\Blk w' gv 99 #[.pointer (some ⟨gs,0,none⟩),.int .u64 (last:Int),.int .u64 (hor:Int)]/\Turn (fun b=>b<w.heap.size) wg w') {pg:Nat} (hpg:gv=pg):
 Calls prog 15 #[.pointer (some ⟨pg,0,none⟩),.int .u64 (at_:Int),.int .i64 many] w (zB3 AP gv #[.pointer (some ⟨gs,0,none⟩),.int .u64 (last:Int),.int .u64 (hor:Int)] at_ (z1k (z13 many) at_ rows 0).length):=by
 subst hpg;have ba:Blk ((w.alloc (.cells #[.int .u64 (at_:Int)] 27)).alloc (.cells #[.int .i64 many] 3)) w.heap.size 27 #[.int .u64 (at_:Int)]:=(Blk.new _ _ _).alloc _;have bm:Blk ((w.alloc (.cells #[.int .u64 (at_:Int)] 27)).alloc (.cells #[.int .i64 many] 3)) (w.heap.size+1) 3 #[.int .i64 many]:=Blk.new1 _ _ _ _;have q0:Below w.heap.size w ((w.alloc (.cells #[.int .u64 (at_:Int)] 27)).alloc (.cells #[.int .i64 many] 3)):=((y7 _ _).alloc (y5 _) _).alloc (by simp) _;have hmf:=z0N prog;have HV:=zz h;have HAP:=zz hap;have HSTB:=zz hst;have HFEW:=zz hfew;have hat:at_<U64:=by omega
 have hgv:=h.blk.lt;clear h hap hst hfew;go_enter func15,ntmps15
 go_upto_region 1 with(fail)
 generalize hW:((w.alloc (.cells #[.int .u64 (at_:Int)] 27)).alloc (.cells #[.int .i64 many] 3))=W at*;clear hW;have HQ0:=zz q0;have HBA:=zz ba;have HBM:=zz bm;have a0:W.cell? ⟨w.heap.size,0,none⟩=some (.int .u64 (at_:Int)):=ba.cell 0;have hmay:=zGg (HV.out.blk.later q0) h1 h2;have HMAY:=zz hmay;have hbv:=HV.out.blk.later q0;have v1:W.cell? ⟨gv,1,none⟩=some (.int .u64 (last:Int)):=hbv.cell 1;have hzW:=q0.size;have hgaW:=ba.lt;clear ba bm q0 hmay hbv;go_wp2_with fail
 refine HMAY.out.mono ?_;rintro e w1 ⟨rfl,rfl⟩;go_wp2_with fail
 have HTO:Hid (∀wg,Calls prog 37 #[.int .u64 (last:Int),.int .u64 (at_:Int)] wg fun e w'=>e= .returned (.agg #[.string (st ttlK),.string (st (z62 last at_)),.bool false])/\Below wg.heap.size wg w'):=fun wg=>zAs last at_ wg hl hat
 have HNV:Hid (∀wg,Turn (trE [TrP.new 8 100 w1.heap.size]) w1 wg->wg.cell? ⟨gv,1,none⟩=some (.int .u64 (last:Int))/\wg.cell? ⟨w.heap.size,0,none⟩=some (.int .u64 (at_:Int))):=fun wg hwg=>
  ⟨Turn.cell hwg v1 fun h=>by
    rw [zK9]at h;have h9:w1.heap.size<=gv:=h;omega,Turn.cell hwg a0 fun h=>by
    rw [zK9]at h;have h9:w1.heap.size<=w.heap.size:=h;omega⟩
 refine z1F [TrP.new 8 100 w1.heap.size] (by kernel_rfl) (by kernel_rfl) ?_;apply Exists.intro;apply And.intro
 .repeat(first
   |(apply z1L rfl
     intro K hK;go_simp;refine hK _ ?_;clear hK K)
   |(apply z2M rfl (by kernel_rfl)
     .intro wg hwg _;have hb:=HNV.out wg hwg;have v1':=hb.1;have a0':=hb.2;unfold z03;go_simp
      first
       |exact z00 _ _
       |(exact z0Z (HTO.out wg))
     intro K hK;go_simp;refine hK _ ?_;clear hK K))
  apply zGx (V:=VRow w.heap.size 96 3 1 [.string (st ttlK),.string (st (z62 last at_)),.bool false] none w1.heap.size) rfl (by kernel_rfl)
  .intro wg hwg hf;unfold z03;go_simp;exact⟨(y7 _ _).alloc (y5 _) _,⟨_,_,rfl⟩,z7E wg w.heap.size 96 [.string (st ttlK),.string (st (z62 last at_)),.bool false] rfl (yD (by omega) hwg.size),.inr ⟨_,rfl,hwg.size⟩⟩
  intro xv hxv K hK;obtain⟨wx,hwx,hbx⟩:=hxv;have hbo:=hbx;obtain⟨⟨A6,c6,rfl⟩,_⟩:=hbo;go_simp;refine hK _ ?_;clear hK K hbx hwx;apply zGx (V:=VNew 100 1 w1.heap.size) rfl (by kernel_rfl)
  .intro wg hwg hf;unfold z03;go_simp;exact⟨(y7 _ _).alloc (y5 _) _,_,rfl,hwg.size,_,Blk.new _ _ _,rfl⟩
  intro xv hxv K hK;obtain⟨wx,hwx,hbx⟩:=hxv;have hbo:=hbx;obtain⟨g7,rfl,hg7,_⟩:=hbo;go_simp;refine hK _ ?_;clear hK K hbx hwx;apply zGv (t:=100) (s0:=w1.heap.size) (g:=g7) (cs:= #[.slice A6 1 c6]) (v:= .slice A6 1 c6) 7 (fun y=> #[y 6]) (ty:=100) (x:= .tmp 9) (y:= .tmp 25)
  .exact rfl
  .kernel_rfl
  .exact rfl
  .exact rfl
  .exact rfl
  .exact rfl
  .kernel_rfl
  .kernel_rfl
  .kernel_rfl
  .exact rfl
  .intro wg hf;exact hf ⟨7,.data⟩ (by simp) rfl (.pointer (some ⟨g7,0,none⟩)) (VNew 100 1 w1.heap.size) (by kernel_rfl)
  intro hbx K hK;go_simp;refine hK _ ?_;clear hK K hbx;refine z39 (fun wf hE hf=> ?_);have h6:VRow w.heap.size 96 3 1 [.string (st ttlK),.string (st (z62 last at_)),.bool false] none w1.heap.size (.slice A6 1 c6) wf:=hf 6 _ _ rfl;have h8:HasB g7 100 w1.heap.size #[.slice A6 1 c6] undef wf:=hf 8 _ _ rfl;have hbw:Below w1.heap.size w1 wf:=Turn.below (y7 w1.heap.size w1) hE (y5 _) fun b hb=>zK9.1 hb
  have hz1:=hbw.size;have HST:Hid (Cst w (wf.alloc (.cells #[.func (Fn.func 38) #[] #[.pointer (some ⟨g7,0,none⟩),.pointer (some ⟨w.heap.size+1,0,none⟩)]] 25)) g7 (w.heap.size+1) w.heap.size wf.heap.size many at_ (.slice A6 1 c6) [⟨ttlK,z62 last at_,false⟩]):=by
   have qa:Below wf.heap.size wf (wf.alloc (.cells #[.func (Fn.func 38) #[] #[.pointer (some ⟨g7,0,none⟩),.pointer (some ⟨w.heap.size+1,0,none⟩)]] 25)):=(y7 _ _).alloc (y5 _) _;have hq1:=HQ0.out.trans (hbw.mono HQ0.out.size);refine⟨h8.2.2.later qa,z17 h6.2.1 qa,(HBM.out.later hbw).later qa,(HBA.out.later hbw).later qa,Blk.new _ _ _,hq1.trans (qa.mono hq1.size),?_,by omega,y5 _,by omega⟩;have:=h8.2.1;omega
  clear hE hf h6 h8 hbw HBA HBM HMAY HTO HNV v1 a0;go_upto_region 6 with(fail)
  generalize hW5:wf.alloc (.cells #[.func (Fn.func 38) #[] #[.pointer (some ⟨g7,0,none⟩),.pointer (some ⟨w.heap.size+1,0,none⟩)]] 25)=W5 at*;clear hW5;generalize wf.heap.size=gf at*;go_wp2_with fail
  refine(zGb HV.out HFEW.out HST.out hm rfl).mono ?_;rintro e w4 ⟨rfl,sv4,hc4⟩;obtain⟨A4,k4,c4,rfl⟩:=z0v hc4.own;obtain⟨n,hn⟩:∃n,(z1k (z13 many) at_ rows 0).length=n:=⟨_,rfl⟩;have hcd:((⟨ttlK,z62 last at_,false⟩:Chg)::(z1k (z13 many) at_ rows 0).map zHQ).length=n+1:=by rw [y8,yw,hn]
  obtain rfl:k4=n+1:=(z0h hc4.own).trans hcd;have hn10:n<=10:=by
   have e1:=z1n (cap:=z13 many) (at_:=at_) rows 0;have e2:=z5Y (cap:=z13 many) (at_:=at_) rows (yU (z13 many));have e3:=z6g many;omega
  have HC4:=zz hc4;have hown4:w4.ownsRow w.heap.size 96 3 (.slice A4 (n+1) c4) (n+1) (chs (z3z last (z13 many) at_ rows)):=by
   have:=hc4.own;rw [hcd]at this;exact this
  have hbl4:=hc4.below;have hz4:=hbl4.size;have HAPP:Hid (∀wg,Below w4.heap.size w4 wg->Calls prog 43 #[.pointer (some ⟨gs,0,none⟩),.slice A4 (n+1) c4] wg fun e w'=>∃v,e= .returned v/\Turn (fun b=>b<w.heap.size) wg w'/\VCol AP w w4 gv #[.pointer (some ⟨gs,0,none⟩),.int .u64 (last:Int),.int .u64 (hor:Int)] v w'):=fun wg hwg=>by
   have hch:Ch (fun b=>w.heap.size<=b/\b<wg.heap.size) wg (.slice A4 (n+1) c4) (z3z last (z13 many) at_ rows):=by
    have h5:=Sl.of_own (size:=3) (by omega) (z17 hown4 hwg);have e:(z3z last (z13 many) at_ rows).length=n+1:=hcd;unfold Ch;rw [e];exact h5
   refine(HAP.out wg _ (hbl4.trans (hwg.mono hz4)) hch).mono ?_;rintro e w' ⟨m,er,he,h5,h6,h7⟩;exact⟨_,he,h7,m,er,rfl,h5,h6,(Turn.of_below hwg).trans h7 fun b h=> .inl h⟩
  have hbv4:=HV.out.blk.later hbl4;have HBV:=zz hbv4;have hg7:=hc4.gc0;have c0:w4.cell? ⟨g7,0,none⟩=some (.slice A4 (n+1) c4):=hc4.c.cell 0;have HNC:Hid (∀wg,Turn (trE [TrP.of 5 (fun b=>b<w.heap.size)]) w4 wg->wg.cell? ⟨g7,0,none⟩=some (.slice A4 (n+1) c4)):=fun wg hwg=>Turn.cell hwg c0 fun h=>by
   rw [zK9]at h;have h9:g7<w.heap.size:=h;omega
  clear hc4 hown4 hbv4 HST HAP hcd;go_wp2_with fail
  refine z1F [TrP.of 5 (fun b=>b<w.heap.size)] (by kernel_rfl) (by kernel_rfl) ?_;apply Exists.intro;apply And.intro
  .repeat(first
    |(apply z1L rfl
      intro K hK;go_simp;refine hK _ ?_;clear hK K)
    |(apply z2M rfl (by kernel_rfl)
      .intro wg hwg _
       skip
       unfold z03;go_simp
       first
        |exact z00 _ _
        |(fail)
      intro K hK;go_simp;refine hK _ ?_;clear hK K))
   apply z4Y (c:= .pointer (some ⟨gs,0,none⟩)) rfl (by kernel_rfl)
   .intro wg hwg hf;have hwg2:=z1s (fun p hp=>by simp only [y9,yH,yp]at hp;subst hp;exact .inr (by kernel_rfl)) hwg;have hb:=HBV.out.later hwg2;have v0:wg.cell? ⟨gv,0,none⟩=some (.pointer (some ⟨gs,0,none⟩)):=hb.cell 0;clear hb hwg hf hwg2;unfold z03;go_simp;exact z00 _ _
   intro K hK;go_simp;refine hK _ ?_;clear hK K
   repeat(first
    |(apply z1L rfl
      intro K hK;go_simp;refine hK _ ?_;clear hK K)
    |(apply z2M rfl (by kernel_rfl)
      .intro wg hwg _;have c0':=HNC.out wg hwg;unfold z03;go_simp
       first
        |exact z00 _ _
        |(fail)
      intro K hK;go_simp;refine hK _ ?_;clear hK K))
   apply z1Z (V:=VCol AP w w4 gv #[.pointer (some ⟨gs,0,none⟩),.int .u64 (last:Int),.int .u64 (hor:Int)]) (TrP.of 5 (fun b=>b<w.heap.size));exact rfl
   kernel_rfl
   .intro wg hwg hf;have hwg2:=z1s (fun p hp=>by simp only [y9,yH,yp]at hp;subst hp;exact .inl rfl) hwg;clear hwg hf;unfold steps;go_simp;apply z1V;exact HAPP.out wg hwg2
   intro xv hxv K hK;obtain⟨wx,hwx,hbx⟩:=hxv;have hbo:=hbx;obtain⟨m5,er,rfl,_⟩:=hbo;go_simp;refine hK _ ?_;clear hK K hbx hwx;apply z7m (fun f=>f 5) (c:= .tuple #[.int .u64 (m5:Int),.int .i64 (er:Int)]) (by kernel_rfl) rfl (by kernel_rfl)
   .intro wg hwg hf;unfold z03;go_simp;exact z00 _ _
   intro K hK;go_simp;refine hK _ ?_;clear hK K;apply z7m (fun f=>tupW (f 6) 0) (c:= .int .u64 (m5:Int)) (by kernel_rfl) rfl (by kernel_rfl)
   .intro wg hwg hf;unfold z03;go_simp;exact z00 _ _
   intro K hK;go_simp;refine hK _ ?_;clear hK K;apply z7m (fun f=>tupW (f 6) 1) (c:= .int .i64 (er:Int)) (by kernel_rfl) rfl (by kernel_rfl)
   .intro wg hwg hf;unfold z03;go_simp;exact z00 _ _
   intro K hK;go_simp;refine hK _ ?_;clear hK K;apply z7m (fun f=>f 7) (c:= .int .u64 (m5:Int)) (by kernel_rfl) rfl (by kernel_rfl)
   .intro wg hwg hf;unfold z03;go_simp;exact z00 _ _
   intro K hK;go_simp;refine hK _ ?_;clear hK K;apply z7m (fun f=>f 8) (c:= .int .i64 (er:Int)) (by kernel_rfl) rfl (by kernel_rfl)
   .intro wg hwg hf;unfold z03;go_simp;exact z00 _ _
   intro K hK;go_simp;refine hK _ ?_;clear hK K;refine z39 (fun w6 hE hf=> ?_);have h5:VCol AP w w4 gv #[.pointer (some ⟨gs,0,none⟩),.int .u64 (last:Int),.int .u64 (hor:Int)] (.tuple #[.int .u64 (m5:Int),.int .i64 (er:Int)]) w6:=hf 5 _ _ rfl;obtain⟨m6,er6,he6,hAP6,hbv6,ht6⟩:=h5;obtain⟨-,rfl⟩:m5=m6/\er=er6:=by
    injection he6 with he6
    injection he6 with he6
    injection he6 with e1 e2
    injection e2 with e2 _
    injection e1 with _ e1
    injection e2 with _ e2
    exact⟨by omega,by omega⟩
   have HA6:=zz hAP6;have HB6:=zz hbv6;have hba6:=HC4.out.a.turn ht6 (fun h=>by have h9:w.heap.size<w.heap.size:=h;omega);have hbc6:=HC4.out.c.turn ht6 (fun h=>by have h9:g7<w.heap.size:=h;omega);have a6:w6.cell? ⟨w.heap.size,0,none⟩=some (.int .u64 (at_:Int)):=hba6.cell 0;have f6:=hbv6.free 2;have v6:w6.cell? ⟨gv,2,none⟩=some (.int .u64 (hor:Int)):=hbv6.cell 2;have ng:gv≠g7:=by omega
   have g6:(w6.setCell ⟨gv,2,none⟩ (.int .u64 (at_:Int))).cell? ⟨g7,0,none⟩=some (.slice A4 (n+1) c4):=(hbc6.far (p:=⟨gv,2,none⟩) (fun h=>ng h.symm) _).cell 0;clear hE hf hAP6 hbv6 hba6 hbc6 ht6 HC4 HAPP HNC c0 HBV he6;by_cases he:er=0
   .subst he;go_wp2_with fail
    go_ret2
    refine⟨0,w6,HA6.out,HB6.out,fun h=>absurd rfl h,fun _=>⟨?_,rfl⟩⟩;rw [hn];rfl
   .have e5:((er:Int) != 0)=true:=by simp;omega
    have HNZ:=zz he;clear he g6;go_wp2_with fail
    go_ret2
    exact⟨er,w6,HA6.out,HB6.out,fun _=>⟨rfl,rfl⟩,fun h=>absurd h HNZ.out⟩
  .apply And.intro
   .repeat(first
     |exact trivial
     |(refine⟨z5y _ _,?_⟩)
     |(refine⟨z7C (VCol.stays HSTB.out) (fun p hp hn hw=>by obtain rfl:=yJ.1 hp;exact absurd rfl hn),?_⟩)
     |(refine⟨zAS _ 6 (fun y y' h=>by simp only [h 5 (by kernel_rfl)]),?_⟩)
     |(refine⟨zAS _ 7 (fun y y' h=>by simp only [h 6 (by kernel_rfl)]),?_⟩)
     |(refine⟨zAS _ 8 (fun y y' h=>by simp only [h 6 (by kernel_rfl)]),?_⟩)
     |(refine⟨zAS _ 9 (fun y y' h=>by simp only [h 7 (by kernel_rfl)]),?_⟩)
     |(refine⟨zAS _ 10 (fun y y' h=>by simp only [h 8 (by kernel_rfl)]),?_⟩)
     )
   .rfl
 .apply And.intro
  .repeat(first
    |exact trivial
    |(refine⟨z5y _ _,?_⟩)
    |(refine⟨z7C VRow.stays (fun p hp hn hw=>by obtain rfl:=yJ.1 hp;exact VRow.putNew (by decide)),?_⟩)
    |(refine⟨z7C VNew.stays (fun p hp _ _=>by obtain rfl:=yJ.1 hp;exact VNew.put),?_⟩)
    |(refine⟨DSet.ok (by kernel_rfl) (fun y y' h=>by rw [h 6 (by kernel_rfl)]) (fun p hp hn _=>absurd rfl (by obtain rfl:=yJ.1 hp;exact hn)),?_⟩)
    )
  .rfl
end
end Go.Proofs.YthnlcbamjehpdaaGreatDoor
