/- Part 25. -/
import Derived.Test.YtdkobefpnjbgnaaGreatDoorMovePutsJ24
import Derived.Deep.CutBlock
namespace Go.Proofs.YtdkobefpnjbgnaaGreatDoor
set_option linter.unusedVariables false
set_option maxHeartbeats 16000000
set_option maxRecDepth 100000
section
open Go Go.RowKit
theorem z6A{P:Program}{fn:Func}{u p v:Tmp}{ty:TypeId}(h:fn.results= #[.tmp u,.cell p ty,.tmp v])(tmps:Array Value)(w:World)(g:Nat){t:TypeId}{cs:Array Value}
 (hp:tmps.getD p undef= .pointer (some ⟨g,0,none⟩)) (hg:Blk w g t cs) (hS:z1D P ty cs.size):
 (results fn tmps).run P w= .ok (.tuple #[tmps.getD u undef,.agg cs,tmps.getD v undef]) w:=by
 have hp':tmps[p]?.getD undef= .pointer (some ⟨g,0,none⟩):=by simpa using hp
 simp [results,h,hp',asAddr,z1n hg hS]
theorem vsnTy:z1D Tryz.prog 73 3:=⟨⟨_,Tryz.underlying73⟩,by kernel_rfl⟩
theorem zEv(k:List UInt8)(t:Nat)(hk:k.length≤64)(ht:t<U64):zIe (z2o (z1B k t))= .tuple #[.string (st k),.int .u64 (t:Int),.int .i64 0]:=by
 rw [zCl k t hk ht];have:18446744073709551615-(18446744073709551615-t)=t:=by unfold U64 at ht;omega
 show Value.tuple #[.string (st k),.int .u64 ((18446744073709551615-(18446744073709551615-t):Nat):Int),.int .i64 0]=_;rw [this]
theorem zCs(k:List UInt8)(t:Nat):(z1B k t).length=(z1y k).length+10:=by simp [z1B,z0u]
theorem z4q{k:List UInt8}(t:Nat)(hk:k.length≤64):(z1f k t).length≤139:=by
 have:=z8r k;unfold z1f;rw [List.length_cons,zCs];omega
theorem z7o(k:List UInt8)(x:Vsn)(w:World)(hk:k.length≤64)(hx:VOk x):
 Calls Tryz.prog 57 #[.agg #[.string (st (z1f k x.t)),.string (st (zAM x))]] w fun e w'=>e= .returned (.tuple #[.string (st k),zEX x,.bool true])∧Below w.heap.size w w':=by
 have hkg:=zEv k x.t hk hx.t64;have hlk:=z4q x.t hk;have hg:=hx.g;have hv:=hx.v;obtain⟨t,v,gn⟩:=x;simp only at hkg hlk hg hv ⊢;have HKG:=zz hkg;have HK:Hid (z1f k t=100::z1B k t):=rfl;obtain⟨kb,hkb⟩:∃kb,z1B k t=kb:=⟨_,rfl⟩;rw [hkb]at HK HKG;rw [HK.out]at hlk ⊢;have hkl:kb.length≤138:=by simpa using hlk
 have ml:kb.length≤maxLen:=by simp only [maxLen];omega
 clear hkg hlk hx hkb HK;cases gn with
 |true=>
  obtain rfl:=hg rfl;have hdv:zAM ⟨t,[],true⟩= [1]:=rfl;rw [hdv];clear hg hdv;have HB0:Hid (Blk ((w.alloc (.cells #[.string (st (100::kb)),.string (st [1])] 121)).alloc (.cells #[.int .u64 0,.string ⟨#[]⟩,.bool false] 73)) w.heap.size 121 #[.string (st (100::kb)),.string (st [1])]):=(Blk.new _ _ _).alloc _;have HB1:Hid (Blk ((w.alloc (.cells #[.string (st (100::kb)),.string (st [1])] 121)).alloc (.cells #[.int .u64 0,.string ⟨#[]⟩,.bool false] 73)) (w.heap.size+1) 73 #[.int .u64 0,.string ⟨#[]⟩,.bool false]):=Blk.new1 _ _ _ _;have HQ0:Hid (Below w.heap.size w ((w.alloc (.cells #[.string (st (100::kb)),.string (st [1])] 121)).alloc (.cells #[.int .u64 0,.string ⟨#[]⟩,.bool false] 73))):=((Below.refl _ _).alloc (Nat.le_refl _) _).alloc (by simp) _;go_enter Tryz.func57,Tryz.ntmps57
  go_wp2_with (refine z1W _ rfl (.tmp 29) rfl tS tB tU ml rfl ?_;intro A1 c1 w1 hbs hbl hsz)
  have HB0':=zz (HB0.out.later hbl);have HB1':=zz (HB1.out.later hbl);have HQ1:=zz (HQ0.out.trans (hbl.mono HQ0.out.size));clear HB0 HB1 HQ0 hbl hsz;refine(zCC _ _ kb w1 (by omega) hbs).mono ?_;rintro e w2 ⟨rfl,hb2⟩;rw [HKG.out];have hbx:=HB0'.out.later hb2;have hby:=HB1'.out.later hb2;have x1:w2.cell? ⟨w.heap.size,1,none⟩=some (.string (st [1])):=hbx.cell 1;have hq2:=HQ1.out.trans (hb2.mono HQ1.out.size);have hgl:=hby.lt;clear HB0' HB1' HQ1 hbs hb2;have HV:=zz (Blk.new w2 73 #[.int .u64 (t:Int),.string ⟨#[]⟩,.bool true]);have HX:=zz (hbx.alloc (.cells #[.int .u64 (t:Int),.string ⟨#[]⟩,.bool true] 73));have HY:=zz (hby.alloc (.cells #[.int .u64 (t:Int),.string ⟨#[]⟩,.bool true] 73));have HQ:=zz (hq2.alloc hq2.size (.cells #[.int .u64 (t:Int),.string ⟨#[]⟩,.bool true] 73));have HGV:Hid (w.heap.size+1<w2.heap.size):=hgl;clear hbx hby hq2 hgl;go_upto_region 5 with(fail)
  generalize hW:w2.alloc (.cells #[.int .u64 (t:Int),.string ⟨#[]⟩,.bool true] 73)=W at*;clear hW x1;generalize w2.heap.size=gv at*;have hgv:w.heap.size+1<gv:=HGV.out;have v0:W.cell? ⟨gv,0,none⟩=some (.int .u64 (t:Int)):=HV.out.cell 0;have v1:W.cell? ⟨gv,1,none⟩=some (.string (st [])):=HV.out.cell 1;have v2:W.cell? ⟨gv,2,none⟩=some (.bool true):=HV.out.cell 2;have x1:W.cell? ⟨w.heap.size,1,none⟩=some (.string (st [1])):=HX.out.cell 1;go_wp2_with fail
  refine z22 [⟨15,w.heap.size+1,73,0,3⟩] (by kernel_rfl) (by kernel_rfl) ?_;apply Exists.intro;apply And.intro
  ·repeat(first
    |(apply z43 rfl
      intro K hK;go_simp;refine hK _ ?_;clear hK K)
    |(apply z0a rfl rfl
      ·intro wg hwg _;replace hwg:=hwg.mono z4k;have v0':=hwg.cell v0 (z0m (by omega) _);have v1':=hwg.cell v1 (z0m (by omega) _);have v2':=hwg.cell v2 (z0m (by omega) _);have x1':=hwg.cell x1 (z0m (by omega) _);unfold z07;go_simp
       first
        |exact z00 _ _
      intro K hK;go_simp;refine hK _ ?_;clear hK K))
   apply z6Z (Is (.agg #[.int .u64 (t:Int),.string (st []),.bool true])) (#[.int .u64 (t:Int),.string (st []),.bool true])
   ·rfl
   ·rfl
   rotate_left 4
   ·exact HY.out
   rotate_right 4
   ·kernel_rfl
   ·kernel_rfl
   ·kernel_rfl
   ·kernel_rfl
   ·kernel_rfl
   ·kernel_rfl
   ·exact fun wg hwg hf=>rfl
   ·exact fun p hp=>Is.pstays _ p
   intro K hK;go_simp;refine hK _ ?_;clear hK K
   repeat(first
    |(apply z43 rfl
      intro K hK;go_simp;refine hK _ ?_;clear hK K)
    |(apply z0a rfl rfl
      ·intro wg hwg _;replace hwg:=hwg.mono z4k;unfold z07;go_simp
       first
        |exact z00 _ _
      intro K hK;go_simp;refine hK _ ?_;clear hK K))
   refine z4g (fun wf hE hf=> ?_);have g15:=hf 15 _ _ rfl;clear hf;obtain⟨-,cs15,b15,r15⟩:=g15;injection r15 with r15
   subst r15;have hbf:Below w.heap.size w wf:=HQ.out.trans (hE.below (B:=w.heap.size) (by have:=HQ.out.size;omega) fun b k hp=>by
    obtain⟨p,hp,h1,_⟩:=hp;obtain rfl:=List.mem_singleton.1 hp;simp only at h1;omega)
   clear hE;go_wp2_with fail
   exact bodyPost_ret (z6A rfl _ _ (w.heap.size+1) rfl b15 vsnTy) rfl ⟨rfl,hbf⟩
  ·apply And.intro
   ·repeat(first
     |exact trivial
     |(refine⟨okIs _ _ _ _,?_⟩)
     |(refine⟨z9G (.inl rfl),?_⟩)
     )
   ·rfl
 |false=>
  have hdv:zAM ⟨t,v,false⟩=0::v:=rfl;rw [hdv];clear hg hdv;have e8:((v.length:Int)+1==0)=false:=by rw [beq_eq_false_iff_ne];omega
  have e9:((kb.length:Int)+1==0)=false:=by rw [beq_eq_false_iff_ne];omega
  have HB0:Hid (Blk ((w.alloc (.cells #[.string (st (100::kb)),.string (st (0::v))] 121)).alloc (.cells #[.int .u64 0,.string ⟨#[]⟩,.bool false] 73)) w.heap.size 121 #[.string (st (100::kb)),.string (st (0::v))]):=(Blk.new _ _ _).alloc _;have HB1:Hid (Blk ((w.alloc (.cells #[.string (st (100::kb)),.string (st (0::v))] 121)).alloc (.cells #[.int .u64 0,.string ⟨#[]⟩,.bool false] 73)) (w.heap.size+1) 73 #[.int .u64 0,.string ⟨#[]⟩,.bool false]):=Blk.new1 _ _ _ _;have HQ0:Hid (Below w.heap.size w ((w.alloc (.cells #[.string (st (100::kb)),.string (st (0::v))] 121)).alloc (.cells #[.int .u64 0,.string ⟨#[]⟩,.bool false] 73))):=((Below.refl _ _).alloc (Nat.le_refl _) _).alloc (by simp) _;go_enter Tryz.func57,Tryz.ntmps57
  go_wp2_with (refine z1W _ rfl (.tmp 29) rfl tS tB tU ml rfl ?_;intro A1 c1 w1 hbs hbl hsz)
  have HB0':=zz (HB0.out.later hbl);have HB1':=zz (HB1.out.later hbl);have HQ1:=zz (HQ0.out.trans (hbl.mono HQ0.out.size));clear HB0 HB1 HQ0 hbl hsz;refine(zCC _ _ kb w1 (by omega) hbs).mono ?_;rintro e w2 ⟨rfl,hb2⟩;rw [HKG.out];have hbx:=HB0'.out.later hb2;have hby:=HB1'.out.later hb2;have x1:w2.cell? ⟨w.heap.size,1,none⟩=some (.string (st (0::v))):=hbx.cell 1;have hq2:=HQ1.out.trans (hb2.mono HQ1.out.size);have hgl:=hby.lt;clear HB0' HB1' HQ1 hbs hb2;have h0:((0::v:List UInt8)== [1])=false:=by cases v<;>rfl
  have hbv:=Blk.new w2 73 #[.int .u64 (t:Int),.string ⟨#[]⟩,.bool false];have hx3:=hbx.alloc (.cells #[.int .u64 (t:Int),.string ⟨#[]⟩,.bool false] 73);have hy3:=hby.alloc (.cells #[.int .u64 (t:Int),.string ⟨#[]⟩,.bool false] 73);have hq3:=hq2.alloc hq2.size (.cells #[.int .u64 (t:Int),.string ⟨#[]⟩,.bool false] 73);have HV3:=zz hbv;have HX3:=zz hx3;have HY3:=zz hy3;have HQ3:=zz hq3;have HGV:Hid (w.heap.size+1<w2.heap.size):=hgl;clear hbx hby hq2 hgl hbv hx3 hy3 hq3;go_upto_region 5 with(fail)
  generalize hW:w2.alloc (.cells #[.int .u64 (t:Int),.string ⟨#[]⟩,.bool false] 73)=W3 at*;clear hW x1;generalize w2.heap.size=gv at*;have z2:W3.cell? ⟨gv,2,none⟩=some (.bool false):=HV3.out.cell 2;have z1:W3.cell? ⟨gv,1,none⟩=some (.string ⟨#[]⟩):=HV3.out.cell 1;have x1:W3.cell? ⟨w.heap.size,1,none⟩=some (.string (st (0::v))):=HX3.out.cell 1;have f1:=HV3.out.free 1;have hgl:=HGV.out;have HV:Hid (Blk (W3.setCell ⟨gv,1,none⟩ (.string (st v))) gv 73 #[.int .u64 (t:Int),.string (st v),.bool false]):=HV3.out.put 1 _;have HX:=zz (HX3.out.far (p:=⟨gv,1,none⟩) (by simp only;omega) (.string (st v)));have HY:=zz (HY3.out.far (p:=⟨gv,1,none⟩) (by simp only;omega) (.string (st v)));have HQ:=zz (HQ3.out.setCell (p:=⟨gv,1,none⟩) (by simp only;omega) (.string (st v)));clear HV3 HX3 HY3 HQ3 hgl;go_upto_region 7 with(fail)
  generalize hW:W3.setCell ⟨gv,1,none⟩ (.string (st v))=W at*;clear hW z1 z2 f1 x1;have hgv:w.heap.size+1<gv:=HGV.out;have v0:W.cell? ⟨gv,0,none⟩=some (.int .u64 (t:Int)):=HV.out.cell 0;have v1:W.cell? ⟨gv,1,none⟩=some (.string (st v)):=HV.out.cell 1;have v2:W.cell? ⟨gv,2,none⟩=some (.bool false):=HV.out.cell 2;have x1:W.cell? ⟨w.heap.size,1,none⟩=some (.string (st (0::v))):=HX.out.cell 1;go_wp2_with fail
  refine z22 [⟨15,w.heap.size+1,73,0,3⟩] (by kernel_rfl) (by kernel_rfl) ?_;apply Exists.intro;apply And.intro
  ·repeat(first
    |(apply z43 rfl
      intro K hK;go_simp;refine hK _ ?_;clear hK K)
    |(apply z0a rfl rfl
      ·intro wg hwg _;replace hwg:=hwg.mono z4k;have v0':=hwg.cell v0 (z0m (by omega) _);have v1':=hwg.cell v1 (z0m (by omega) _);have v2':=hwg.cell v2 (z0m (by omega) _);have x1':=hwg.cell x1 (z0m (by omega) _);unfold z07;go_simp
       first
        |exact z00 _ _
      intro K hK;go_simp;refine hK _ ?_;clear hK K))
   apply z6Z (Is (.agg #[.int .u64 (t:Int),.string (st v),.bool false])) (#[.int .u64 (t:Int),.string (st v),.bool false])
   ·rfl
   ·rfl
   rotate_left 4
   ·exact HY.out
   rotate_right 4
   ·kernel_rfl
   ·kernel_rfl
   ·kernel_rfl
   ·kernel_rfl
   ·kernel_rfl
   ·kernel_rfl
   ·exact fun wg hwg hf=>rfl
   ·exact fun p hp=>Is.pstays _ p
   intro K hK;go_simp;refine hK _ ?_;clear hK K
   repeat(first
    |(apply z43 rfl
      intro K hK;go_simp;refine hK _ ?_;clear hK K)
    |(apply z0a rfl rfl
      ·intro wg hwg _;replace hwg:=hwg.mono z4k;unfold z07;go_simp
       first
        |exact z00 _ _
      intro K hK;go_simp;refine hK _ ?_;clear hK K))
   refine z4g (fun wf hE hf=> ?_);have g15:=hf 15 _ _ rfl;clear hf;obtain⟨-,cs15,b15,r15⟩:=g15;injection r15 with r15
   subst r15;have hbf:Below w.heap.size w wf:=HQ.out.trans (hE.below (B:=w.heap.size) (by have:=HQ.out.size;omega) fun b k hp=>by
    obtain⟨p,hp,h1,_⟩:=hp;obtain rfl:=List.mem_singleton.1 hp;simp only at h1;omega)
   clear hE;go_wp2_with fail
   exact bodyPost_ret (z6A rfl _ _ (w.heap.size+1) rfl b15 vsnTy) rfl ⟨rfl,hbf⟩
  ·apply And.intro
   ·repeat(first
     |exact trivial
     |(refine⟨okIs _ _ _ _,?_⟩)
     |(refine⟨z9G (.inl rfl),?_⟩)
     )
   ·rfl
structure Chg where
 k:List UInt8
 v:List UInt8
 gone:Bool
def chC(x:Chg):List Value:= [.string (st x.k),.string (st x.v),.bool x.gone]
def chs(l:List Chg):List Value:=l.flatMap chC
theorem zJL(a b:List Chg):chs (a++b)=chs a++chs b:=by simp [chs]
theorem zIB:∀ {l:List Chg} {j:Nat} (h:j<l.length),(chs l)[j*3]? =some (.string (st l[j].k))∧(chs l)[j*3+1]? =some (.string (st l[j].v))∧(chs l)[j*3+2]? =some (.bool l[j].gone)
 |a::l,0,h=>⟨rfl,rfl,rfl⟩
 |a::l,j+1,h=>by
  have ih:=zIB (l:=l) (j:=j) (by simpa using h);have e:chs (a::l)=chC a++chs l:=rfl;have e2:∀m,(chs (a::l))[(j+1)*3+m]? =(chs l)[j*3+m]? :=fun m=>by
   rw [e,List.getElem?_append_right (by simp only [chC,List.length_cons,List.length_nil];omega)]
   congr 1
   simp only [chC,List.length_cons,List.length_nil];omega
  have h0:=e2 0;simp only [Nat.add_zero]at h0;rw [h0,e2 1,e2 2];simpa using ih
def Ch(S:Nat→Prop)(w:World)(v:Value)(l:List Chg):Prop:=Sl S w 3 v l.length (chs l)
theorem Ch.lt{S:Nat→Prop}{w:World}{v:Value}{l:List Chg}(h:Ch S w v l):Ch (fun b=>b<w.heap.size) w v l:=(Sl.lt h (by omega)).more fun _ h=>h.2
theorem Ch.at{S:Nat→Prop}{w:World}{v:Value}{l:List Chg}(h:Ch S w v l):∃A c,v= .slice A l.length c∧l.length≤c∧c≤maxLen∧(A=none→c=0)∧
 (0<l.length→∃b o,A=some ⟨b,o,none⟩∧S b∧∀j (hj:j<l.length),w.cell? ⟨b,o+j*3,none⟩=some (.string (st l[j].k))∧w.cell? ⟨b,o+j*3+1,none⟩=some (.string (st l[j].v))∧w.cell? ⟨b,o+j*3+2,none⟩=some (.bool l[j].gone)):=by
 obtain⟨h1,A,c,rfl,h2,h3,h4,h5⟩:=h;refine⟨A,c,rfl,h2,h3,h4,fun h0=> ?_⟩;obtain⟨b,o,rfl,hS,hc⟩:=h5 h0;refine⟨b,o,rfl,hS,fun j hj=> ?_⟩;have ha:=zIB hj;exact⟨hc _ _ ha.1,hc _ _ ha.2.1,hc _ _ ha.2.2⟩
def z95(x:Chg):List UInt8:=z0Q x.k++(z1N x.gone++if x.gone then []else z0Q x.v)
def z1S(l:List Chg):List UInt8:=z0A l.length++l.flatMap z95
def ChOk(l:List Chg):Prop:=l.length≤11∧∀x∈l,x.k.length≤480∧(x.gone=false→x.v.length≤480)
theorem zGT{x:Chg}(h:x.k.length≤480∧(x.gone=false→x.v.length≤480)):(z95 x).length≤1000:=by
 have h1:=z0v x.k (by omega);have h2:(z0A x.k.length).length≤10:=z06 (by unfold U64;omega);unfold z95;cases hg:x.gone with
 |true=>
  have:(z1N true).length=1:=rfl;simp only [List.length_append,if_true,List.length_nil];omega
 |false=>
  have h3:=h.2 hg;have h4:=z0v x.v (by omega);have h5:(z0A x.v.length).length≤10:=z06 (by unfold U64;omega);have:(z1N false).length=1:=rfl;simp only [List.length_append,Bool.false_eq_true,if_false];omega
theorem z4b:∀ {l:List Chg},(∀x∈l,x.k.length≤480∧(x.gone=false→x.v.length≤480))→(l.flatMap z95).length≤1000*l.length
 | [],_=>by simp
 |a::l,h=>by
  have h1:=zGT (h a (by simp));have h2:=z4b fun x hx=>h x (List.mem_cons_of_mem _ hx)
  rw [List.flatMap_cons,List.length_append,List.length_cons];omega
def chN(x:Chg):Nat:=if x.gone then x.k.length else x.k.length+x.v.length
def z45(x:Chg):Bool:=decide (240<x.k.length)||decide (480<chN x)
def z2N(l:List Chg):Nat:=(l.filter fun x=> !x.gone).length
def z4X(P:Pgr)(l:List Chg):Nat:=if 11<l.length then 151 else if l.any z45 then 100 else if 90<P.pages.length+(8+2*z2N l)then 141 else 0
theorem z8O(l:List Chg):z2N l≤l.length:=List.length_filter_le _ _
theorem zA8(a b:List Chg):z2N (a++b)=z2N a+z2N b:=by simp [z2N]
theorem z6R{P:Pgr}{l:List Chg}(h:z4X P l=0):l.length≤11∧(∀x∈l,x.k.length≤240∧chN x≤480)∧P.pages.length+(8+2*z2N l)≤90:=by
 unfold z4X at h
 split at h
 ·cases h
 ·split at h
  ·cases h
  ·split at h
   ·cases h
   ·rename_i h1 h2 h3;refine⟨by omega,fun x hx=> ?_,by omega⟩;have:=List.any_eq_false.1 (by simpa using h2:l.any z45=false) x hx;unfold z45 at this;simp only [Bool.or_eq_true,decide_eq_true_eq,not_or]at this;omega
theorem zFA{P:Pgr}{l:List Chg}(h:z4X P l=0):ChOk l:=by
 have h1:=z6R h;refine⟨h1.1,fun x hx=> ?_⟩;have h2:=h1.2.1 x hx;refine⟨by omega,fun hg=> ?_⟩;have h3:=h2.2;unfold chN at h3;rw [hg]at h3;simp only [Bool.false_eq_true,if_false]at h3;omega
theorem zC0(gs:Nat)(Z:Pz)(P:Pgr)(S:Nat→Prop)(v0:Value)(l:List Chg)(w:World)(hp:Pg w Z P){v1 v2:Value}(hs:Blk w gs 118 #[v1,.pointer (some ⟨Z.g,0,none⟩),v2])(hr:Ch S w v0 l)(hl:l.length≤1000000)(hx:∀x∈l,x.k.length≤65536∧x.v.length≤65536):
 Calls Tryz.prog 92 #[.pointer (some ⟨gs,0,none⟩),v0] w fun e w'=>e= .returned (.int .i64 (z4X P l:Int))∧Below w.heap.size w w':=by
 have HP:=zz hp;have HS:=zz hs;obtain⟨A,c,rfl,hlc,hcm,hA0,hA⟩:=hr.lt.at;have HA:=zz hA;have HX:=zz hx;clear hA hr hA0 hx hp hs;by_cases h11:11<l.length
 ·have HE:Hid (z4X P l=151):=by unfold z4X;rw [Hid,if_pos h11]
  go_enter Tryz.func92,Tryz.ntmps92
  go_wp2_with fail
  go_ret
  rw [HE.out];exact⟨rfl,Below.refl _ _⟩
 ·have HM:Hid (z4X P l=if l.any z45 then 100 else if 90<P.pages.length+(8+2*z2N l)then 141 else 0):=by unfold z4X;rw [Hid,if_neg h11]
  go_enter Tryz.func92,Tryz.ntmps92
  go_wp2_with fail
  go_loopw [5,14] (fun nv iv wr=>∃ (i m:Nat),iv= .int .i64 (i:Int)∧nv= .int .i64 (m:Int)∧i≤l.length∧m≤100∧Hid (m=8+2*z2N (l.take i)∧(l.take i).any z45=false∧Below w.heap.size w wr)) (fun _ iv _=>l.length-(intOf iv).toNat)
  case atStart=>exact⟨0,8,rfl,rfl,by omega,by omega,by simp [z2N],by simp,Below.refl _ _⟩
  case round=>
   obtain⟨i,m,rfl,rfl,hi,hm,RR⟩:=hrel;have hbl:=RR.out.2.2;by_cases hil:i<l.length
   ·obtain⟨b,o,rfl,hbs,hc⟩:=HA.out (by omega);have c0:wr.cell? ⟨b,o+i*3,none⟩=some (.string (st l[i].k)):=(hbl.cell (p:=⟨b,o+i*3,none⟩) hbs).trans (hc i hil).1;have c1:wr.cell? ⟨b,o+i*3+1,none⟩=some (.string (st l[i].v)):=(hbl.cell (p:=⟨b,o+i*3+1,none⟩) hbs).trans (hc i hil).2.1;have c2:wr.cell? ⟨b,o+i*3+2,none⟩=some (.bool l[i].gone):=(hbl.cell (p:=⟨b,o+i*3+2,none⟩) hbs).trans (hc i hil).2.2;have hx:=HX.out _ (List.getElem_mem hil);have htk:l.take (i+1)=l.take i++ [l[i]]:=List.take_succ_eq_append_getElem hil;have hmem:l[i]∈l:=List.getElem_mem hil;obtain⟨x,hx0⟩:∃x,l[i]=x:=⟨_,rfl⟩;rw [hx0]at c0 c1 c2 hx htk hmem;have HTK:=zz htk;have HMEM:=zz hmem;clear hx0 hc htk hmem;obtain⟨k,v,gn⟩:=x;simp only at c0 c1 c2 hx;have hB5:=zz (Blk.new wr 127 #[.string (st k),.string (st v),.bool gn]);have HQ5:=zz (hbl.alloc hbl.size (.cells #[.string (st k),.string (st v),.bool gn] 127));have hma:m=8+2*z2N (l.take i):=RR.out.1;have hpl:=z8O (l.take i);rw [List.length_take]at hpl;have HRM:=zz hma;have HRA:=zz RR.out.2.1;have hm2:m≤30:=by omega
    have ew:IntKind.i64.wrap ((k.length:Int)+(v.length:Int))=(k.length:Int)+(v.length:Int):=z1T (by omega) (by omega);have ew2:IntKind.i64.wrap ((m:Int)+2)=((m+2:Nat):Int):=by rw [z1T (by omega) (by omega)];omega
    clear hma hpl hbl RR hm;by_cases h240:240<k.length
    ·have z1:decide ((240:Int)<(k.length:Int))=true:=decide_eq_true (by omega);cases gn with
     |true=>
      have BAD:z45 ⟨k,v,true⟩=true:=by simp [z45,h240]
      have HE:Hid (z4X P l=100):=by
       rw [Hid,HM.out,if_pos (List.any_eq_true.2 ⟨_,HMEM.out,BAD⟩)]
      clear HM;go_wp2_with fail
      go_ret
      rw [HE.out];exact⟨rfl,HQ5.out⟩
     |false=>
      have BAD:z45 ⟨k,v,false⟩=true:=by simp [z45,h240]
      have HE:Hid (z4X P l=100):=by
       rw [Hid,HM.out,if_pos (List.any_eq_true.2 ⟨_,HMEM.out,BAD⟩)]
      clear HM;go_wp2_with fail
      go_ret
      rw [HE.out];exact⟨rfl,HQ5.out⟩
    ·have z1:decide ((240:Int)<(k.length:Int))=false:=decide_eq_false (by omega);cases gn with
     |true=>
      by_cases h480:480<k.length
      ·omega
      ·have z2:decide ((480:Int)<(k.length:Int))=false:=decide_eq_false (by omega);have RF:Hid (m=8+2*z2N (l.take (i+1))∧(l.take (i+1)).any z45=false∧Below w.heap.size w (wr.alloc (.cells #[.string (st k),.string (st v),.bool true] 127))):=by
        refine⟨?_,?_,HQ5.out⟩
        ·have hrm:=HRM.out;rw [HTK.out,zA8];simp [z2N]at hrm ⊢
         try omega
        ·rw [HTK.out,List.any_append,HRA.out];simp [z45,chN,decide_eq_false h240,decide_eq_false h480]
       clear HM HRM HRA HTK;go_wp2_with fail
       go_roundw
       case rel=>exact⟨i+1,m,by go_num,rfl,by omega,by omega,RF⟩
       case measure=>simp [intOf];omega
     |false=>
      by_cases h480:480<k.length+v.length
      ·have z2:decide ((480:Int)<(k.length:Int)+(v.length:Int))=true:=decide_eq_true (by omega);have BAD:z45 ⟨k,v,false⟩=true:=by simp [z45,chN,h480]
       have HE:Hid (z4X P l=100):=by
        rw [Hid,HM.out,if_pos (List.any_eq_true.2 ⟨_,HMEM.out,BAD⟩)]
       clear HM;go_wp2_with fail
       go_ret
       rw [HE.out];exact⟨rfl,HQ5.out⟩
      ·have z2:decide ((480:Int)<(k.length:Int)+(v.length:Int))=false:=decide_eq_false (by omega);obtain⟨m2,hm22⟩:∃m2,m+2=m2:=⟨_,rfl⟩;rw [hm22]at ew2;have RF:Hid (m2=8+2*z2N (l.take (i+1))∧(l.take (i+1)).any z45=false∧Below w.heap.size w (wr.alloc (.cells #[.string (st k),.string (st v),.bool false] 127))):=by
        refine⟨?_,?_,HQ5.out⟩
        ·have hrm:=HRM.out;rw [HTK.out,zA8];simp [z2N]at hrm ⊢
         try omega
        ·rw [HTK.out,List.any_append,HRA.out];simp [z45,chN,decide_eq_false h240,decide_eq_false h480]
       clear HM HRM HRA HTK;go_wp2_with fail
       go_roundw
       case rel=>exact⟨i+1,m2,by go_num,rfl,by omega,by omega,RF⟩
       case measure=>simp [intOf];omega
   ·obtain rfl:i=l.length:=by omega
    have hm1:=RR.out.1;have ha1:=RR.out.2.1;rw [List.take_length]at hm1 ha1;have hl90:P.pages.length≤90:=by unfold Pgr.pages;exact Nat.le_trans (List.length_filter_le _ _) (by simp)
    have HP2:=zz (HP.out.later hbl);have HM2:Hid (z4X P l=if 90<P.pages.length+m then 141 else 0):=by
     rw [Hid,HM.out,ha1,←hm1];rfl
    have HB:=zz hbl;have hs2:Blk wr gs 118 #[v1,.pointer (some ⟨Z.g,0,none⟩),v2]:=HS.out.later hbl;have cs1:wr.cell? ⟨gs,1,none⟩=some (.pointer (some ⟨Z.g,0,none⟩)):=hs2.cell 1;clear hs2;clear HM RR hm1 ha1 hbl HP HA HX;go_wp2_with fail
    refine(z3m Z P _ HP2.out).mono ?_;rintro e w6 ⟨v6,rfl,ho6,hb6⟩;obtain⟨A6,k6,c6,rfl⟩:=z0p ho6;obtain rfl:=z0V ho6;have hk6:(il P.pages).length=P.pages.length:=z9Q _;have HB6:=zz (HB.out.trans (hb6.mono HB.out.size));clear ho6 hb6;rw [hk6];have ew:IntKind.i64.wrap ((90:Int)-(P.pages.length:Int))=(90:Int)-(P.pages.length:Int):=z1T (by omega) (by omega);by_cases h90:90<P.pages.length+m
    ·have z3:decide ((90:Int)-(P.pages.length:Int)<(m:Int))=true:=decide_eq_true (by omega);have HE:Hid (z4X P l=141):=by rw [Hid,HM2.out,if_pos h90]
     clear HM2 HP2;go_wp2_with fail
     go_ret
     rw [HE.out];exact⟨rfl,HB6.out⟩
    ·have z3:decide ((90:Int)-(P.pages.length:Int)<(m:Int))=false:=decide_eq_false (by omega);have HE:Hid (z4X P l=0):=by rw [Hid,HM2.out,if_neg h90]
     clear HM2 HP2;go_wp2_with fail
     go_ret
     rw [HE.out];exact⟨rfl,HB6.out⟩
def undV(u:Und):Value:= .agg #[.int .i64 u.id,.int .i64 (u.depth:Int),.string (st u.from_),.string (st u.to_),.bool u.open_]
def FiPost(b:Bool)(w:World)(e:Ending)(w':World):Prop:=e= .returned (.bool b)∧Below w.heap.size w w'
def unC(u:Und):List Value:= [.int .i64 u.id,.int .i64 (u.depth:Int),.string (st u.from_),.string (st u.to_),.bool u.open_]
def zDr(l:List Und):List Value:=l.flatMap unC
theorem zGY(a b:List Und):zDr (a++b)=zDr a++zDr b:=by simp [zDr]
theorem zGQ(u:Und):zDr [u]=unC u:=by simp [zDr]
theorem zHo(l:List Und):(zDr l).length=l.length*5:=by
 induction l with
 |nil=>rfl
 |cons x l ih=>
  have e:zDr (x::l)=unC x++zDr l:=by simp [zDr]
  rw [e,List.length_append,ih,List.length_cons];simp [unC];omega
def lfC(l:List ((Int×Pag)×Value)):List Value:=l.flatMap fun x=> [.bool x.1.2.1,.int .i64 (x.1.2.2.1:Int),x.2]
theorem zEK(a b:List ((Int×Pag)×Value)):lfC (a++b)=lfC a++lfC b:=by simp [lfC]
theorem zER(l:List ((Int×Pag)×Value)):(lfC l).length=l.length*3:=by
 induction l with
 |nil=>rfl
 |cons x l ih=>
  have e:lfC (x::l)= [.bool x.1.2.1,.int .i64 (x.1.2.2.1:Int),x.2]++lfC l:=by simp [lfC]
  rw [e,List.length_append,ih,List.length_cons];simp;omega
def idC(l:List (Int×Pag)):List Value:=l.map fun x=> .int .i64 x.1
theorem elemIntT:Elem Tryz.prog 214 3 (.int .i64 0) 1 8:=Elem.mk' Tryz.underlying214 (by kernel_rfl) rfl (by omega)
theorem zI6:Elem Tryz.prog 262 186 (.agg #[.bool false,.int .i64 0,.slice none 0 0]) 3 40:=Elem.mk' Tryz.underlying262 (by kernel_rfl) rfl (by omega)
theorem z86{w:World}{B B':Nat}{e e':TypeId}{size size' n n':Nat}{v v':Value}{xs xs':List Value}(h:w.ownsRow B e size v n xs)(h':w.ownsRow B' e' size' v' n' xs')(hne:e≠e'):∀g,v.ownBlock=some g→v'.ownBlock≠some g:=by
 intro g hg hg';rcases h.2 with⟨rfl,_⟩|⟨g1,cap,cur,rfl,_,hh,_⟩
 ·simp [Value.ownBlock]at hg
 ·rcases h'.2 with⟨rfl,_⟩|⟨g2,cap',cur',rfl,_,hh',_⟩
  ·simp [Value.ownBlock]at hg'
  ·simp [Value.ownBlock]at hg hg';subst hg;subst hg';rw [hh]at hh';simp at hh';exact hne hh'.2
theorem zBS{w w':World}{B b:Nat}{e:TypeId}{size n:Nat}{v:Value}{xs:List Value}(h:w.ownsRow B e size v n xs)(hk:z0E w b=some none)(hg:w.mapTurned w' b):w'.ownsRow B e size v n xs:=by
 refine h.kept hg.grown ?_;rcases h.2 with⟨rfl,_⟩|⟨g,cap,cur,rfl,_,hh,_⟩
 ·exact .inl rfl
 ·refine .inr fun e=> ?_
  simp [Value.ownBlock]at e;subst e;unfold z0E at hk;rw [hh]at hk;simp at hk
theorem zIt{w:World}{B:Nat}{e:TypeId}{size n c:Nat}{A:Option Addr}{xs ys:List Value}(h:w.ownsRow B e size (.slice A (n+1) c) (n+1) (xs++ys))(hx:xs.length=n*size)(hy:ys.length=size):
 w.ownsRow B e size (.slice A n c) n xs∧∃g,A=some ⟨g,0,none⟩∧B≤g∧g<w.heap.size∧n+1≤c∧c≤maxLen∧∀j u,ys[j]? =some u→w.cell? ⟨g,n*size+j,none⟩=some u:=by
 have h0:=h;rcases h.2 with⟨_,h0⟩|⟨g,cap,cur,hv,hB,hh,hcap,hm,hsz,ht⟩
 ·omega
 ·injection hv with e1 _ e3
  subst e1 e3;refine⟨⟨hx,.inr ⟨g,c,cur,rfl,hB,hh,by omega,hm,hsz,?_⟩⟩,g,rfl,hB,(Array.getElem?_eq_some_iff.1 hh).1,hcap,hm,fun j u hu=> ?_⟩
  ·have h1:(cur.toList.take ((n+1)*size)).take (n*size)=(xs++ys).take (n*size):=by rw [ht]
   rw [List.take_take,Nat.min_eq_left (Nat.mul_le_mul_right _ (by omega)),←hx,List.take_left' rfl]at h1;rw [←hx];exact h1
  ·have:=h0.cells (g:=g) rfl (n*size+j) u (by rw [List.getElem?_append_right (by omega),hx,Nat.add_sub_cancel_left];exact hu);have e:((⟨g,0,none⟩:Addr).add (n*size+j))=⟨g,n*size+j,none⟩:=by rw [z0U];simp
   rw [e]at this;exact this
theorem z3k{w:World}{B n c g j:Nat}{e:TypeId}{size:Nat}{xs:List Value}{u:Value}(h:w.ownsRow B e size (.slice (some ⟨g,0,none⟩) n c) n xs)(hj:xs[j]? =some u):w.cell? ⟨g,j,none⟩=some u:=by
 have:=h.cells (g:=g) rfl j u hj;have e:((⟨g,0,none⟩:Addr).add j)=⟨g,j,none⟩:=by rw [z0U];simp
 rw [e]at this;exact this
theorem zHy{w:World}{B n:Nat}{e:TypeId}{size:Nat}{v:Value}{xs:List Value}(h:w.ownsRow B e size v n xs)(h0:0<n):∃g c,v= .slice (some ⟨g,0,none⟩) n c∧∀j u,xs[j]? =some u→w.cell? ⟨g,j,none⟩=some u:=by
 have h1:=h;rcases h.2 with⟨_,hn⟩|⟨g,cap,cur,rfl,_⟩
 ·omega
 ·exact⟨g,cap,rfl,fun j u hj=>z3k h1 hj⟩
theorem z8T(w:World)(B:Nat)(e:TypeId)(cs:List Value){g:Nat}(hg:g=w.heap.size)(hB:B≤w.heap.size):(w.alloc (.cells cs.toArray e)).ownsRow B e cs.length (.slice (some ⟨g,0,none⟩) 1 1) 1 cs:=by
 subst hg;exact⟨by simp,.inr ⟨w.heap.size,1,cs.toArray,rfl,hB,heap_alloc_new w _,Nat.le_refl _,by simp [maxLen],by simp,by simp⟩⟩
theorem z9i(w:World)(u0:Value)(t:TypeId):∀j u,([u0]:List Value)[j]? =some u→(w.alloc (.cells #[u0] t)).cell? ((⟨w.heap.size,0,none⟩:Addr).add j)=some u:=by
 intro j u hj;have e:((⟨w.heap.size,0,none⟩:Addr).add j)=⟨w.heap.size,j,none⟩:=by rw [z0U];simp
 rw [e,(Blk.new w t #[u0]).cell j,←hj];simp
theorem zAA{w:World}{o:Obj}{b:Addr}{xs:List Value}(h:∀j u,xs[j]? =some u→w.cell? (b.add j)=some u):∀b',some b=some b'→∀j u,xs[j]? =some u→(w.alloc o).cell? (b'.add j)=some u:=by
 intro b' hb j u hj;obtain rfl:=Option.some.inj hb;have h1:=h j u hj;have hl:=World.block_lt_of_cell? w _ h1;exact(World.cell?_of_block (Below.heap_alloc w o _ hl)).trans h1
theorem z2l{P:Program}(w:World){ops:Array Oper}{rest:List Oper}{o:Oper}{a:Act}{Q:Exit→Act→World→Prop}(hgd:o.guard=none)(x lo hi mx:Operand){t e:TypeId}{z:Value}{bytes:Nat}(E:Elem P t e z 1 bytes)
 (ho:o.op= .slice t x (some lo) (some hi) (some mx)) {g N c:Nat} {xs:List Value} (hx:a.eval x= .slice (some ⟨g,0,none⟩) N c) (hlo:a.eval lo= .int .i64 1) (hhi:a.eval hi= .int .i64 (N:Int)) (hmx:a.eval mx= .int .i64 (N:Int)) (h1:1≤N) (hc:N≤c)
 (hl:xs.length=N) (hr:∀j u,xs[j]? =some u→w.cell? ⟨g,j,none⟩=some u)
 (h:∀b:Addr,(∀j u,(xs.drop 1)[j]? =some u→w.cell? (b.add j)=some u)→wpList P ops Q rest (a.put o.dst (.slice (some b) (N-1) (N-1))) w):wpList P ops Q (o::rest) a w:=by
 refine wpList_plain hgd fun K hK=> ?_
 obtain⟨i,hi0,hz,hs,hby⟩:=E.info;have key:∀b:Addr,(b=if N=1 then⟨g,0,none⟩else⟨g,1,none⟩)→∀j u,(xs.drop 1)[j]? =some u→w.cell? (b.add j)=some u:=by
  intro b hb j u hj;rw [List.getElem?_drop]at hj;by_cases hN:N=1
  ·obtain⟨h2,_⟩:=List.getElem?_eq_some_iff.1 hj;omega
  ·rw [if_neg hN]at hb;subst hb;have e:((⟨g,1,none⟩:Addr).add j)=⟨g,1+j,none⟩:=by rw [z0U]
   rw [e];exact hr _ _ hj
 unfold Oper.wp;have hrun:(Instr.sliceAt t (.slice (some ⟨g,0,none⟩) N c) (some (.int .i64 1)) (some (.int .i64 (N:Int))) (some (.int .i64 (N:Int)))).run P w= .ok (.slice (some (if N=1 then⟨g,0,none⟩else⟨g,1,none⟩)) (N-1) (N-1)) w:=by
  by_cases hN:N=1
  ·subst hN;simp [Instr.sliceAt,Instr.slice,Instr.sliceBounds,Instr.sliceBound,run_underlying E.under,sizeOf,typeInfo,hi0,asIntOf,hs];intro h;omega
  ·simp [Instr.sliceAt,Instr.slice,Instr.sliceBounds,Instr.sliceBound,run_underlying E.under,sizeOf,typeInfo,hi0,asIntOf,hs,hN,hc,z0U];intro h;omega
 simp [execOp,ho,hx,hlo,hhi,hmx,hrun,Result.andThen];exact hK _ _ (h _ (key _ rfl))
structure CkSt(w wr:World)(bm:Nat)(tv lv iv:Value)(td:List Und)(s:ChT):Prop where
 todo:wr.ownsRow w.heap.size 260 5 tv td.length (zDr td.reverse)
 lv:∃us:List Value,us.length=s.leaves.length∧wr.ownsRow w.heap.size 186 3 lv s.leaves.length (lfC (s.leaves.zip us))∧∀u∈us,∃A k c,u= .slice A k c
 ids:wr.ownsRow w.heap.size 3 1 iv s.leaves.length (idC s.leaves)
 seen:∃f,MpV Tryz.prog 3 wr bm f s.seen.length∧∀a,InI a→(f a).isSome=s.seen.contains a
 below:Below w.heap.size w wr
section
variable {w wr w':World} {bm:Nat} {tv lv iv:Value} {td:List Und} {s:ChT}
theorem CkSt.later(h:CkSt w wr bm tv lv iv td s)(hb:Below wr.heap.size wr w'):CkSt w w' bm tv lv iv td s:=by
 obtain⟨us,h1,h2,h3⟩:=h.lv;obtain⟨f,h4,h5⟩:=h.seen;exact⟨z0y h.todo hb,⟨us,h1,z0y h2 hb,h3⟩,z0y h.ids hb,⟨f,h4.later hb,h5⟩,h.below.trans (hb.mono h.below.size)⟩
theorem CkSt.cut(h:CkSt w wr bm tv lv iv td s){tv':Value}{td':List Und}(ho:wr.ownsRow w.heap.size 260 5 tv' td'.length (zDr td'.reverse)):CkSt w wr bm tv' lv iv td' s:=⟨ho,h.lv,h.ids,h.seen,h.below⟩
theorem CkSt.mark(h:CkSt w wr bm tv lv iv td s){f:Int→Option Value}{n:Nat}{a:Int}(hm:MpV Tryz.prog 3 w' bm f n)(hg:wr.mapTurned w' bm)(hk:z0E wr bm=some none)(hbm:w.heap.size≤bm)(hn:n=s.seen.length+1)(hf:∀x,InI x→(f x).isSome=(a::s.seen).contains x):
 CkSt w w' bm tv lv iv td ⟨s.leaves,a::s.seen,s.depth⟩:=by
 obtain⟨us,h1,h2,h3⟩:=h.lv;refine⟨zBS h.todo hk hg,⟨us,h1,zBS h2 hk hg,h3⟩,zBS h.ids hk hg,⟨f,by subst hn;exact hm,hf⟩,?_⟩;exact h.below.grown hg.grown h.below.size (fun k hk=>by injection hk with hk;omega)
end
structure CkOk(pf:PF)(td:List Und)(s:ChT)(k:Nat)(F:Option ChT):Prop where
 run:z1k pf k td s=F
 fuel:s.seen.length+k=91
 nod:s.seen.Nodup
 pgs:∀a∈s.seen,0≤a∧a<90
 und:∀u∈td,InI u.id∧u.depth≤s.seen.length
 len:td.length≤1+1100*s.seen.length
 dep:s.depth≤91
 lvs:∀x∈s.leaves,InI x.1∧POk x.2
 lvn:s.leaves.length≤s.seen.length
theorem z8W{l:List Int}(hn:l.Nodup)(h:∀a∈l,0≤a∧a<90):l.length≤90:=by
 have:=z6C (l:=l) (l':=(List.range 90).map fun i:Nat=>(i:Int)) hn fun a ha=>by
  obtain⟨h0,h1⟩:=h a ha;rw [List.mem_map];exact⟨a.toNat,by rw [List.mem_range];omega,by omega⟩
 simpa using this
theorem CkOk.start(pf:PF):CkOk pf [zEB] ⟨[],[],0⟩ 91 (z1k pf 91 [zEB] ⟨[],[],0⟩):=
 ⟨rfl,rfl,List.nodup_nil,fun _ h=>(by cases h),fun u hu=>(by obtain rfl:=List.mem_singleton.1 hu;exact⟨by unfold InI zEB;simp,by unfold zEB;simp⟩),by simp,by simp,fun _ h=>(by cases h),by simp⟩
theorem CkOk.done{pf:PF}{s:ChT}{k:Nat}{F:Option ChT}(h:CkOk pf [] s k F):F=some s:=by
 rw [←h.run];cases k<;>rfl
theorem CkOk.step{pf:PF}{u:Und}{td:List Und}{s:ChT}{k:Nat}{F:Option ChT}(h:CkOk pf (u::td) s k F):
 ∃k',k=k'+1∧F=match pf u.id with
 |none=>none
 |some x=>
  if s.seen.contains u.id|| !z8K u x then none
  else if x.1 then
   if s.leaves≠ []∧s.depth≠u.depth then none
   else z1k pf k' td ⟨s.leaves++ [(u.id,x)],u.id::s.seen,u.depth⟩
  else z1k pf k' (zIl u x.2.2++td) ⟨s.leaves,u.id::s.seen,s.depth⟩:=by
 have h9:=z8W h.nod h.pgs;have hf:=h.fuel;obtain⟨k',rfl⟩:∃k',k=k'+1:=⟨k-1,by omega⟩;refine⟨k',rfl,?_⟩;rw [←h.run]
 conv=>lhs;rw [z1k]
 rfl
theorem CkOk.leaf{pf:PF}{u:Und}{td:List Und}{s:ChT}{k:Nat}{F:Option ChT}(h:CkOk pf (u::td) s (k+1) F){x:Pag}(hx:0≤u.id∧u.id<90∧POk x)(hs:s.seen.contains u.id=false)
 (hF:F=z1k pf k td ⟨s.leaves++ [(u.id,x)],u.id::s.seen,u.depth⟩):CkOk pf td ⟨s.leaves++ [(u.id,x)],u.id::s.seen,u.depth⟩ k F:=by
 have hu:=h.und u (List.mem_cons_self ..);have hns:u.id∉s.seen:=fun e=>by rw [List.contains_iff_mem.2 e]at hs;cases hs
 have h9:=z8W h.nod h.pgs;have hf:=h.fuel;refine⟨hF.symm,by simp only [List.length_cons];omega,List.nodup_cons.2 ⟨hns,h.nod⟩,fun a ha=> ?_,fun v hv=> ?_,?_,by simp only;omega,fun y hy=> ?_,?_⟩
 ·rcases List.mem_cons.1 ha with rfl|ha
  ·exact⟨hx.1,hx.2.1⟩
  ·exact h.pgs a ha
 ·have:=h.und v (List.mem_cons_of_mem _ hv);exact⟨this.1,by simp only [List.length_cons];omega⟩
 ·have:=h.len;simp only [List.length_cons]at this ⊢;omega
 ·rcases List.mem_append.1 hy with hy|hy
  ·exact h.lvs y hy
  ·obtain rfl:=List.mem_singleton.1 hy;exact⟨hu.1,hx.2.2⟩
 ·have:=h.lvn;simp only [List.length_append,List.length_cons,List.length_nil];omega
theorem zJC{l:List (Int×Pag)}{i:Nat}(h:i<l.length):((idC l).drop 1++([.int .i64 0]:List Value))[i]? =some (.int .i64 ((((l.map (·.1)).drop 1++ [0])[i]?).getD 0)):=by
 have e:((idC l).drop 1++([.int .i64 0]:List Value))=(((l.map fun x:Int×Pag=>x.1).drop 1++ [0]:List Int)).map (fun z:Int=>Value.int .i64 z):=by
  unfold idC;rw [List.map_append,List.map_drop,List.map_map];rfl
 rw [e,List.getElem?_map];have hl:i<(((l.map fun x:Int×Pag=>x.1).drop 1++ [0]:List Int)).length:=by simp;omega
 rw [List.getElem?_eq_getElem hl];rfl
def z7a(l:List (Int×Pag))(i:Nat):Prop:=∀x,l[i]? =some x→(x.2.2.1:Int)=(((l.map (·.1)).drop 1++ [0])[i]?).getD 0
theorem z4O:∀l:List (Int×Pag),z2Q l=true↔∀i,i<l.length→z7a l i
 | []=>by simp [z2Q]
 | [(j,x)]=>by
   simp only [z2Q,decide_eq_true_eq];constructor
   ·intro h i hi y hy;obtain rfl:i=0:=by simp at hi;omega
    simp at hy;subst hy;simp [h]
   ·intro h;have:=h 0 (by simp) (j,x) (by simp);simp at this;omega
 |(j,x)::(k,y)::r=>by
  rw [z2Q,Bool.and_eq_true,z4O ((k,y)::r),decide_eq_true_eq];constructor
  ·rintro⟨h1,h2⟩ i hi z hz;cases i with
   |zero=>
    simp at hz;subst hz;simpa using h1
   |succ i=>
    have:=h2 i (by simpa using hi) z (by simpa using hz);simpa using this
  ·intro h;refine⟨?_,fun i hi z hz=> ?_⟩
   ·have:=h 0 (by simp) (j,x) (by simp);simpa using this
   ·have:=h (i+1) (by simpa using hi) z (by simpa using hz);simpa using this
set_option linter.unusedSimpArgs false
section
variable {P:Program} {ops:Array Oper}
abbrev DP:=(Nat→Value)→VP
def yOf(env:List (Value×VP)):Nat→Value:=fun i=>((env[i]?).map (·.1)).getD undef
def z4H(Ds:List DP)(j:Nat):DP:=Ds.getD j fun _ _ _=>True
def zDQ(Ds:List DP)(y:Nat→Value)(k:Nat):List (Value×VP):=(List.range k).map fun j=>(y j,z4H Ds j y)
theorem zC6(Ds:List DP)(y:Nat→Value)(k:Nat):(zDQ Ds y k).length=k:=by simp [zDQ]
theorem z93{Ds:List DP}{y:Nat→Value}{k j:Nat}{x:Value}{W:VP}(h:(zDQ Ds y k)[j]? =some (x,W)):j<k∧x=y j∧W=z4H Ds j y:=by
 unfold zDQ at h;rw [List.getElem?_map,Option.map_eq_some_iff]at h;obtain⟨i,hi,h2⟩:=h;obtain⟨h3,h4⟩:=List.getElem?_eq_some_iff.1 hi;rw [List.getElem_range]at h4;subst h4;simp only [List.length_range]at h3;injection h2 with h5 h6
 exact⟨h3,h5.symm,h6.symm⟩
theorem zHG{Ds:List DP}{y:Nat→Value}{k i:Nat}(hi:i<k):yOf (zDQ Ds y k) i=y i:=by
 unfold yOf zDQ;rw [List.getElem?_map,List.getElem?_range hi];rfl
def z2R(P:Program)(ops:Array Oper)(R:RegFr)(Q:Act→World→Prop):List Oper→List DP→List (Value×VP)→Act→Prop
 |o::rest,D::Ds,env,a=>
  (if Region.wanted o (yielded ops a.tmps)then ∀w,R.C env.length w→(∀e∈o.after,Region.binds .any e=true→∀ (x:Value) (W:VP),env[e.on]? =some (x,W)→W x w)→steps P o a w (R.S env.length) (D (yOf env))else ∀w,R.C env.length w→D (yOf env) undef w)∧
  ∀x,(∃w,R.E w∧D (yOf env) x w)→z2R P ops R Q rest Ds (env++ [(x,D (yOf env))]) (a.put o.dst x)
 | [],[],env,a=>∀w,R.E w→(∀ (j:Nat) (x:Value) (W:VP),env[j]? =some (x,W)→W x w)→Q a w
 |_,_,_,_=>False
structure RegFr.OkD(R:RegFr)(ops:Array Oper)(Ds:List DP):Prop where
 V:∀i j,i<ops.size→j<ops.size→i≠j→z0r ops j i=false→∀y x w w',R.S i w w'→z4H Ds j y x w→z4H Ds j y x w'
 C:∀i j,i<ops.size→j<ops.size→i≠j→z0r ops i j=false→∀w w',R.S i w w'→R.C j w→R.C j w'
 E:∀i,i<ops.size→∀w w',R.S i w w'→R.E w→R.E w'
 D:∀j,j<ops.size→∀y y':Nat→Value,(∀i,z0r ops j i=true→y i=y' i)→z4H Ds j y=z4H Ds j y'
theorem zCE{R:RegFr}{Ds:List DP}(hg:z2Y ops=true)(hR:R.OkD ops Ds){y:Nat→Value}{k:Nat}(hk:k<ops.size):z4H Ds k (yOf (zDQ Ds y k))=z4H Ds k y:=
 hR.D k hk _ _ fun i hi=>zHG (z35 hg hk hi)
variable {R:RegFr} {Q:Act→World→Prop} {Ds:List DP} {a0:Act}
theorem z5w(hg:z2Y ops=true)(hR:R.OkD ops Ds)(hlen:Ds.length=ops.size)(h0:z2R P ops R Q ops.toList Ds [] a0)(y:Nat→Value):∀k,k≤ops.size→(∀j,j<k→∃w,R.E w∧z4H Ds j y (y j) w)→
 z2R P ops R Q (ops.toList.drop k) (Ds.drop k) (zDQ Ds y k) (z5Y ops a0 y k)
 |0,_,_=>by simpa [zDQ,z5Y]using h0
 |k+1,hk,hy=>by
  have ih:=z5w hg hR hlen h0 y k (by omega) fun j hj=>hy j (by omega)
  have hk1:k<ops.toList.length:=by rw [Array.length_toList];omega
  have hk2:k<Ds.length:=by omega
  rw [List.drop_eq_getElem_cons (l:=ops.toList) hk1,List.drop_eq_getElem_cons (l:=Ds) hk2]at ih;have h2:=ih.2 (y k) (by
   obtain⟨w,hw,hv⟩:=hy k (by omega);refine⟨w,hw,?_⟩;have e:z4H Ds k=Ds[k]'(by omega):=by unfold z4H;simp [List.getD,List.getElem?_eq_getElem (show k<Ds.length by omega)]
   rw [←zCE hg hR (by omega),e]at hv;exact hv)
  have e1:zDQ Ds y (k+1)=zDQ Ds y k++ [(y k,(Ds[k]'(by omega)) (yOf (zDQ Ds y k)))]:=by
   have e:z4H Ds k=Ds[k]'(by omega):=by unfold z4H;simp [List.getD,List.getElem?_eq_getElem (show k<Ds.length by omega)]
   rw [←e,zCE hg hR (by omega)];simp [zDQ,List.range_succ]
  have e2:z5Y ops a0 y (k+1)=(z5Y ops a0 y k).put (ops.toList[k]'(by rw [Array.length_toList];omega)).dst (y k):=by
   rw [z5Y]
   congr 1
   simp [z1v,Array.getElem?_eq_getElem (show k<ops.size by omega)]
  rw [e1,e2];exact h2
theorem z7s(hg:z2Y ops=true)(hR:R.OkD ops Ds)(hlen:Ds.length=ops.size)
 (h0:z2R P ops R Q ops.toList Ds [] a0) {w:World} (hE:R.E w) {L:Nat→Bool} {x:Nat→Value} (hx:∀j,j<ops.size→L j=true→z4H Ds j x (x j) w) (hcl:∀ (i:Nat) (o:Oper),ops[i]? =some o→L i=true→∀e∈o.after,Region.binds .any e=true→L e.on=true) (hC:∀j,j<ops.size→L j=false→R.C j w):
 ∀k,k≤ops.size→∃ (y:Nat→Value) (w':World),R.E w'∧(∀j,L j=true→y j=x j)∧(∀j,j<ops.size→L j=true∨j<k→z4H Ds j y (y j) w')∧∀j,j<ops.size→L j=false→k≤j→R.C j w'
 |0,_=>⟨x,w,hE,fun _ _=>rfl,fun j hj h=>h.elim (hx j hj) (fun h=>by omega),fun j hj hl _=>hC j hj hl⟩
 |k+1,hk=>by
  obtain⟨y,w',hE',hyx,hy,hC'⟩:=z7s hg hR hlen h0 hE hx hcl hC k (by omega);by_cases hL:L k=true
  ·refine⟨y,w',hE',hyx,fun j hj h=>hy j hj ?_,fun j hj hl hkj=>hC' j hj hl (by omega)⟩;rcases h with h|h
   ·exact .inl h
   ·by_cases hjk:j=k
    ·subst hjk;exact .inl hL
    ·exact .inr (by omega)
  ·have hL':L k=false:=by simpa using hL
   have hcw:=hC' k (by omega) hL' (Nat.le_refl _);have hat:=z5w hg hR hlen h0 y k (by omega) fun j hj=>⟨w',hE',hy j (by omega) (.inr hj)⟩
   have hk1:k<ops.toList.length:=by rw [Array.length_toList];omega
   have hk2:k<Ds.length:=by omega
   rw [List.drop_eq_getElem_cons (l:=ops.toList) hk1,List.drop_eq_getElem_cons (l:=Ds) hk2]at hat;have e:z4H Ds k=Ds[k]'(by omega):=by unfold z4H;simp [List.getD,List.getElem?_eq_getElem (show k<Ds.length by omega)]
   have dep:=zCE (y:=y) hg hR (show k<ops.size by omega);have hex:∃v w'',(w''=w'∨R.S k w' w'')∧z4H Ds k y v w'':=by
    have h1:=hat.1;rw [zC6]at h1
    split at h1
    ·obtain⟨v,w'',hbb,hv⟩:=z3X (h1 w' hcw fun e he hbd x W hxW=>by
      obtain⟨hlt,rfl,rfl⟩:=z93 hxW;exact hy _ (by omega) (.inr hlt))
     exact⟨v,w'',.inr hbb,by rw [←dep,e];exact hv⟩
    ·exact⟨undef,w',.inl rfl,by rw [←dep,e];exact h1 w' hcw⟩
   obtain⟨v,w'',hst,hv⟩:=hex;have ed:∀j,j<ops.size→z0r ops j k=false→z4H Ds j (fun j=>if j=k then v else y j)=z4H Ds j y:=fun j hj hw=>hR.D j hj _ _ fun i hi=>by
    have:i≠k:=fun e=>by subst e;rw [hw]at hi;cases hi
    simp [this]
   refine⟨fun j=>if j=k then v else y j,w'',?_,fun j hj=> ?_,fun j hj h=> ?_,fun j hj hl hkj=> ?_⟩
   ·rcases hst with rfl|hst
    ·exact hE'
    ·exact hR.E k (by omega) _ _ hst hE'
   ·have hne:j≠k:=by rintro rfl;exact hL hj
    simp only [hne,if_false];exact hyx j hj
   ·by_cases hjk:j=k
    ·subst hjk;rw [ed j hj (by
      cases hwt:z0r ops j j with
      |false=>rfl
      |true=>exact absurd (z35 hg hj hwt) (by omega))]
     simpa using hv
    ·have hwt:z0r ops j k=false:=by
      cases hwt:z0r ops j k with
      |false=>rfl
      |true=>
       have hkj:=z35 hg hj hwt;rcases h with h|h
       ·obtain⟨e,he,he2,hbd⟩:=(z0n (Array.getElem?_eq_getElem hj)).1 hwt;have:=hcl j _ (Array.getElem?_eq_getElem hj) h e he hbd;rw [he2,hL']at this;cases this
       ·omega
     rw [ed j hj hwt];simp only [hjk,if_false];have h4:=hy j hj (h.elim .inl fun h=> .inr (by omega));rcases hst with rfl|hst
     ·exact h4
     ·exact hR.V k j (by omega) hj (fun e=>hjk e.symm) hwt _ _ _ _ hst h4
   ·have h4:=hC' j hj hl (by omega);rcases hst with rfl|hst
    ·exact h4
    ·refine hR.C k j (by omega) hj (by omega) ?_ _ _ hst h4;cases hwt:z0r ops k j with
     |false=>rfl
     |true=>exact absurd (z35 hg (by omega) hwt) (by omega)
theorem zEf(hg:z2Y ops=true)(hR:R.OkD ops Ds)(hlen:Ds.length=ops.size)
 (h0:z2R P ops R Q ops.toList Ds [] a0) {Q':Exit→Act→World→Prop} (hQ:∀a w,Q a w→Q' .normal a w):
 ∀ (fuel:Nat) (listed:Array Bool) (a:Act) (w:World) (x:Nat→Value),listed.size=ops.size→R.E w→(∀j,j<ops.size→listed.getD j false=false→R.C j w)→Laid ops a0 (fun j=>if listed.getD j false then some (x j)else none) a→
   (∀j,j<ops.size→listed.getD j false=true→z4H Ds j x (x j) w)→(∀ (i:Nat) (o:Oper),ops[i]? =some o→listed.getD i false=true→∀e∈o.after,Region.binds .any e=true→listed.getD e.on false=true)→
   unl ops.size listed≤fuel→wpAny P .any ops Q' fuel listed a w:=by
 obtain⟨hs1,hs2,hs3,hs4⟩:=z2c hg;have hlt:∀ {i:Nat} {o:Oper},ops[i]? =some o→i<ops.size:=fun ho=>(Array.getElem?_eq_some_iff.1 ho).1
 have hend:∀ (listed:Array Bool) (a:Act) (w:World) (x:Nat→Value),listed.size=ops.size→R.E w→Laid ops a0 (fun j=>if listed.getD j false then some (x j)else none) a→
  (∀j,j<ops.size→listed.getD j false=true→z4H Ds j x (x j) w)→Region.ready .any ops listed= []→Q' .normal a w:=by
  intro listed a w x hsz hw hL hx hr;have hall:∀n,∀j,j<n→j<ops.size→listed.getD j false=true:=by
   intro n
   induction n with
   |zero=>intro j hj;omega
   |succ n ih=>
    intro j hj hjs;rcases Nat.lt_or_ge j n with hjn|hjn
    ·exact ih j hjn hjs
    ·obtain rfl:j=n:=by omega
     cases hlj:listed.getD j false with
     |true=>rfl
     |false=>
      exfalso;have:j∈Region.ready .any ops listed:=mem_ready.2 ⟨by
       have hj':j<listed.size:=by omega
       simpa [Array.getD,hj']using hlj,ops[j],Array.getElem?_eq_getElem hjs,fun e he hb=>ih e.on (hs1 j _ (Array.getElem?_eq_getElem hjs) e he hb) (by have:=hs1 j _ (Array.getElem?_eq_getElem hjs) e he hb;omega)⟩
      rw [hr]at this;cases this
  have hat:=z5w hg hR hlen h0 x ops.size (Nat.le_refl _) fun j hj=>⟨w,hw,hx j hj (hall _ j hj hj)⟩
  rw [List.drop_of_length_le (by simp),List.drop_of_length_le (by omega)]at hat;have hq:=hat w hw fun j x' W hxW=>by
   obtain⟨hj,rfl,rfl⟩:=z93 hxW;exact hx j hj (hall _ j hj hj)
  have he:a=z5Y ops a0 x ops.size:=Laid.same hL ((z2H hg a0 x ops.size (Nat.le_refl _)).congr fun j hj=>by simp only [hj,if_true,hall _ j hj hj]);rw [he];exact hQ _ _ hq
 intro fuel
 induction fuel with
 |zero=>
  intro listed a w x hsz hw hC hL hx hcl hf;have hr:Region.ready .any ops listed= []:=by
   rw [List.eq_nil_iff_forall_not_mem];intro i hi;obtain⟨h1,o,ho,_⟩:=mem_ready.1 hi;have:i∈(List.range ops.size).filter fun j=> !listed.getD j true:=List.mem_filter.2 ⟨List.mem_range.2 (hlt ho),by rw [h1];rfl⟩
   have hz:((List.range ops.size).filter fun j=> !listed.getD j true)= []:=List.eq_nil_of_length_eq_zero (by unfold unl at hf;omega);rw [hz]at this;cases this
  exact⟨hr,hend listed a w x hsz hw hL hx hr⟩
 |succ fuel ih=>
  intro listed a w x hsz hw hC hL hx hcl hf;refine⟨fun hr=>hend listed a w x hsz hw hL hx hr,fun i hi=> ?_⟩;obtain⟨hi1,o,ho,hdeps⟩:=mem_ready.1 hi;have hin:=hlt ho;have hi2:=zAT hi1;have eV:z4H Ds i=Ds[i]'(by omega):=by unfold z4H;simp [List.getD,List.getElem?_eq_getElem (show i<Ds.length by omega)]
  obtain⟨y,w',hE',hyx,hy,_⟩:=z7s hg hR hlen h0 hw (L:=fun j=>listed.getD j false) hx hcl hC i (by omega);have hat:=z5w hg hR hlen h0 y i (by omega) fun j hj=>⟨w',hE',hy j (by omega) (.inr hj)⟩
  have hk1:i<ops.toList.length:=by rw [Array.length_toList];omega
  have hk2:i<Ds.length:=by omega
  rw [List.drop_eq_getElem_cons (l:=ops.toList) hk1,List.drop_eq_getElem_cons (l:=Ds) hk2]at hat;have eo:ops.toList[i]'(by simpa using hin)=o:=by
   have:=Array.getElem?_eq_getElem hin;rw [ho]at this;simpa using (Option.some.inj this).symm
  rw [eo,←eV]at hat;have dep:=zCE (y:=y) hg hR (show i<ops.size from hin);have dep2:z4H Ds i y=z4H Ds i x:=hR.D i hin _ _ fun j hj=>by
   obtain⟨e,he,rfl,hbd⟩:=(z0n ho).1 hj;exact hyx _ (hdeps e he hbd)
  have hlex:=z2H hg a0 y i (by omega);have hag:∀t∈o.looksAt ops,a.tmps[t]? =(z5Y ops a0 y i).tmps[t]? :=by
   intro t ht;by_cases hj:∃j,j<ops.size∧z1v ops j=some t
   ·obtain⟨j,hjn,hjd⟩:=hj;have only:∀j',j'<ops.size→z1v ops j'=some t→j'=j:=fun j' h1 h2=>hs2 j' j t h1 hjn h2 hjd
    have hother:(listed.getD j false=false)→i≤j→a.tmps[t]? =(z5Y ops a0 y i).tmps[t]? :=fun h1 h2=>by
     rw [hL.off t fun j' hj' hd'=>by rw [only j' hj' hd',h1];rfl,hlex.off t fun j' hj' hd'=>by
      rw [only j' hj' hd'];have:¬j<i:=by omega
      simp [this]]
    rcases hs3 i j o t ho hjn hjd ht with h|h|h
    ·obtain⟨e,he,rfl,hbd⟩:=(z0n ho).1 h;have hl:=hdeps e he hbd;have hji:=hs1 i o ho e he hbd;rw [hL.put e.on t (x e.on) hjn hjd (by rw [hl];rfl),hlex.put e.on t (y e.on) hjn hjd (by simp [hji]),hyx e.on hl]
    ·obtain⟨e,he,rfl,hbd⟩:=(z0n (Array.getElem?_eq_getElem hjn)).1 h;have hlt2:=hs1 j _ (Array.getElem?_eq_getElem hjn) e he hbd;refine hother ?_ (by omega);cases hlj:listed.getD j false with
     |false=>rfl
     |true=>
      have:=hcl j _ (Array.getElem?_eq_getElem hjn) hlj e he hbd;rw [hi2]at this;cases this
    ·subst h;exact hother hi2 (Nat.le_refl _)
   ·rw [hL.off t fun j hjn hjd=>absurd ⟨j,hjn,hjd⟩ hj,hlex.off t fun j hjn hjd=>absurd ⟨j,hjn,hjd⟩ hj]
  obtain⟨hex,hwant⟩:=z5Z (ops:=ops) (hs4 i o · · ho) hag;have hnext:∀v w2,(w2=w∨R.S i w w2)→z4H Ds i x v w2→wpAny P .any ops Q' fuel (listed.setIfInBounds i true) (a.put o.dst v) w2:=by
   intro v w2 hst hv;have hset:∀j,(listed.setIfInBounds i true).getD j false=if j=i then true else listed.getD j false:=fun j=>by
    by_cases hji:j=i
    ·subst hji;have:j<listed.size:=by omega
     simp [Array.getD,this]
    ·rw [getD_set_ne false (fun e=>hji e.symm)];simp [hji]
   refine ih _ _ _ (fun j=>if j=i then v else x j) (by simpa using hsz) ?_ ?_ ?_ ?_ ?_ ?_
   ·rcases hst with rfl|hst
    ·exact hw
    ·exact hR.E i hin _ _ hst hw
   ·intro j hj hlj;rw [hset]at hlj;by_cases hji:j=i
    ·simp [hji]at hlj
    ·simp only [hji,if_false]at hlj;have h4:=hC j hj hlj;rcases hst with rfl|hst
     ·exact h4
     ·refine hR.C i j hin hj (fun e=>hji e.symm) ?_ _ _ hst h4;cases hwt:z0r ops i j with
      |false=>rfl
      |true=>
       obtain⟨e,he,rfl,hbd⟩:=(z0n ho).1 hwt;have:=hdeps e he hbd;rw [hlj]at this;cases this
   ·refine(hL.next hg ho (by rw [hi2];rfl) v).congr fun j hj=> ?_
    rw [hset];by_cases hji:j=i<;>simp [hji]
   ·intro j hj hlj;rw [hset]at hlj;have ed:z0r ops j i=false→z4H Ds j (fun j=>if j=i then v else x j)=z4H Ds j x:=fun hw=>hR.D j hj _ _ fun q hq=>by
     have:q≠i:=fun e=>by subst e;rw [hw]at hq;cases hq
     simp [this]
    by_cases hji:j=i
    ·subst hji;rw [ed (by
      cases hwt:z0r ops j j with
      |false=>rfl
      |true=>exact absurd (z35 hg hj hwt) (by omega))]
     simpa using hv
    ·simp only [hji,if_false]at hlj;have hwt:z0r ops j i=false:=by
      cases hwt:z0r ops j i with
      |false=>rfl
      |true=>
       obtain⟨e,he,he2,hbd⟩:=(z0n (Array.getElem?_eq_getElem hj)).1 hwt;have:=hcl j _ (Array.getElem?_eq_getElem hj) hlj e he hbd;rw [he2,hi2]at this;cases this
     rw [ed hwt];simp only [hji,if_false];have h4:=hx j hj hlj;rcases hst with rfl|hst
     ·exact h4
     ·exact hR.V i j hin hj (fun e=>hji e.symm) hwt _ _ _ _ hst h4
   ·intro k ok hok hlk e he hbd;rw [hset]at hlk ⊢;by_cases hki:k=i
    ·subst hki;obtain rfl:ok=o:=by rw [ho]at hok;exact(Option.some.inj hok).symm
     have:=hdeps e he hbd;by_cases h':e.on=k<;>simp [h',this]
    ·simp only [hki,if_false]at hlk;have:=hcl k ok hok hlk e he hbd;by_cases h':e.on=i<;>simp [h',this]
   ·have:unl ops.size (listed.setIfInBounds i true)<unl ops.size listed:=by
     refine z24 (List.range ops.size) (fun j _ hq=> ?_) i (List.mem_range.2 hin) (by rw [hi1];rfl) ?_
     ·by_cases hji:j=i
      ·subst hji;rw [hi1];rfl
      ·rwa [getD_set_ne true (fun e=>hji e.symm)]at hq
     ·have:i<listed.size:=by omega
      simp [Array.getD,this]
    omega
  unfold wpOp;simp only [ho];rw [hwant];have h1:=hat.1;rw [zC6]at h1;have hci:=hC i hin hi2
  split
  ·rename_i hwt;rw [if_pos hwt]at h1;refine .inl (z6w (S:=R.S i) (V:=z4H Ds i x) ?_ fun v w2 hb2 hv=>hnext v w2 (.inr hb2) hv);unfold steps;rw [hex,←dep2,←dep];exact h1 w hci fun e he hbd x' W hxW=>by
    obtain⟨hlt2,rfl,rfl⟩:=z93 hxW;have hl:=hdeps e he hbd;rw [hyx _ hl,hR.D e.on (by omega) y x fun q hq=>by
     obtain⟨e',he',rfl,hbd'⟩:=(z0n (Array.getElem?_eq_getElem (show e.on<ops.size by omega))).1 hq;exact hyx _ (hcl _ _ (Array.getElem?_eq_getElem (show e.on<ops.size by omega)) hl e' he' hbd')]
    exact hx _ (by omega) hl
  ·rename_i hwt;rw [if_neg hwt]at h1;exact hnext undef w (.inl rfl) (by rw [←dep2,←dep];exact h1 w hci)
theorem z8b{id:Nat}{Q':Exit→Act→World→Prop}{w0:World}(l:List Oper)(hm:P.follows .mixedOrders=true)(hg:z2Y l.toArray=true)(hR:R.OkD l.toArray Ds)(hlen:Ds.length=l.length)
 (hE:R.E w0.drew) (hC:∀j,j<l.toArray.size→R.C j w0.drew)
 (h0:z2R P l.toArray R (fun a w=>Q' .normal a w) l Ds [] a0):(Code.region id l.toArray true).wp P Q' a0 w0:=by
 have hno:∀j,(Array.replicate l.toArray.size false).getD j false=false:=fun j=>by unfold Array.getD;split<;>simp
 refine wp_region_any hm (zEf (Q:=fun a w=>Q' .normal a w) hg hR (by simpa using hlen) (by simpa using h0) (fun a w h=>h) _ _ _ _ (fun _=>undef) (by simp) hE (fun j hj _=>hC j hj) ?_ ?_ ?_ ?_)
 ·refine(Laid.start a0).congr fun j hj=> ?_
  rw [hno];rfl
 ·intro j hj h;rw [hno]at h;cases h
 ·intro i o ho h;rw [hno]at h;cases h
 ·unfold unl;exact Nat.le_trans (List.length_filter_le _ _) (by simp)
end
end
section
open Go Go.RowKit
set_option linter.unusedSimpArgs false
structure TrP where
 i:Nat
 F:Nat→Prop
 T:World→World→Prop
 ok:∀w w',T w w'→Turn F w w'
def TrP.of(i:Nat)(F:Nat→Prop):TrP:=⟨i,F,Turn F,fun _ _ h=>h⟩
def zGI(st:List TrP)(i:Nat):World→World→Prop:=fun w w'=>match st.find? (fun p=>p.i==i)with
 |some p=>p.T w w'
 |none=>Below w.heap.size w w'
def trX(ops:Array Oper)(st:List TrP)(j:Nat):Nat→Prop:=fun b=>∃p∈st,p.i≠j∧z0r ops p.i j=false∧p.F b
def trE(st:List TrP):Nat→Prop:=fun b=>∃p∈st,p.F b
def trR(ops:Array Oper)(st:List TrP)(w0:World):RegFr:=⟨zGI st,fun j=>Turn (trX ops st j) w0,Turn (trE st) w0⟩
theorem trX_E{ops:Array Oper}{st:List TrP}{j:Nat}(b:Nat)(h:trX ops st j b):trE st b:=by
 obtain⟨p,h1,_,_,h2⟩:=h;exact⟨p,h1,h2⟩
def z2j(T:World→World→Prop)(V:VP):Prop:=∀v w w',T w w'→V v w→V v w'
def zEg(ops:Array Oper)(st:List TrP):Nat→List VP→Prop
 |_,[]=>True
 |j,V::Vs=>(Stays V∧∀p∈st,p.i≠j→z0r ops j p.i=false→z2j p.T V)∧zEg ops st (j+1) Vs
theorem allTr{ops:Array Oper}{st:List TrP}:∀ {Vs:List VP} {n:Nat},zEg ops st n Vs→∀j,j<Vs.length→Stays (vAt Vs j)∧∀p∈st,p.i≠n+j→z0r ops (n+j) p.i=false→z2j p.T (vAt Vs j)
 |V::Vs,n,h,0,_=>h.1
 |V::Vs,n,h,j+1,hj=>by
  have:=allTr h.2 j (by simp only [List.length_cons]at hj;omega);rw [show n+1+j=n+(j+1)from by omega]at this;exact this
theorem z8p{st:List TrP}{i:Nat}{p:TrP}(h:st.find? (fun p=>p.i==i)=some p):p∈st∧p.i=i:=by
 have h1:=List.find?_some h;exact⟨List.mem_of_find?_eq_some h,by simpa using h1⟩
section
variable {P:Program} {ops:Array Oper} {st:List TrP} {w0:World}
theorem zIL{Vs:List VP}(hlen:Vs.length=ops.size)(h:zEg ops st 0 Vs):(trR ops st w0).Ok ops Vs:=by
 refine⟨fun i j hi hj hne hwt x w w' hS hv=> ?_,fun i j hi hj hne hwt w w' hS hC=> ?_,fun i hi w w' hS hE=> ?_⟩
 ·have h1:=allTr h j (by omega);rw [Nat.zero_add]at h1;simp only [trR,zGI]at hS
  split at hS
  ·rename_i p hp;obtain⟨hm,rfl⟩:=z8p hp;exact h1.2 p hm hne hwt x w w' hS hv
  ·exact h1.1 x w w' hS hv
 ·simp only [trR,zGI]at hS hC ⊢
  split at hS
  ·rename_i p hp;obtain⟨hm,rfl⟩:=z8p hp;exact hC.trans (p.ok _ _ hS) fun b hb=> .inl ⟨p,hm,hne,hwt,hb⟩
  ·exact hC.trans (Turn.of_below (F:=trX ops st j) hS) fun b hb=> .inl hb
 ·simp only [trR,zGI]at hS hE ⊢
  split at hS
  ·rename_i p hp;obtain⟨hm,rfl⟩:=z8p hp;exact hE.trans (p.ok _ _ hS) fun b hb=> .inl ⟨p,hm,hb⟩
  ·exact hE.trans (Turn.of_below (F:=trE st) hS) fun b hb=> .inl hb
theorem z3W{id:Nat}{Q':Exit→Act→World→Prop}{l:List Oper}{a0:Act}(st:List TrP)(hm:P.follows .mixedOrders=true)(hg:z2Y l.toArray=true)
 (h:∃Vs,z16 P l.toArray (trR l.toArray st w0) (fun a w=>Q' .normal a w) l Vs [] a0∧zEg l.toArray st 0 Vs∧Vs.length=l.length):(Code.region id l.toArray true).wp P Q' a0 w0:=by
 obtain⟨Vs,h0,hS,hlen⟩:=h;exact z3C l hm hg (zIL (by simpa using hlen) hS) hlen ((Turn.refl _ _).drew) (fun _ _=>(Turn.refl _ _).drew) h0
variable {Q:Act→World→Prop} {a:Act} {o:Oper} {rest:List Oper} {Vs:List VP} {env:List (Value×VP)}
theorem z1Y{V:VP}(hw:Region.wanted o (yielded ops a.tmps)=true)(hs:st.find? (fun p=>p.i==env.length)=none)
 (h1:∀w,Turn (trE st) w0 w→(∀e∈o.after,Region.binds .any e=true→∀ (x:Value) (W:VP),env[e.on]? =some (x,W)→W x w)→z07 P o a w V)
 (h2:∀x,(∃w,Turn (trE st) w0 w∧V x w)→∀K:Act→Prop,(∀a',z16 P ops (trR ops st w0) Q rest Vs (env++ [(x,V)]) a'→K a')→K (a.put o.dst x)):z16 P ops (trR ops st w0) Q (o::rest) (V::Vs) env a:=by
 refine⟨?_,fun x hx=>h2 x hx _ fun _ h=>h⟩;rw [if_pos hw];intro w hC hf;have h3:=h1 w (Turn.mono hC fun b hb _=>trX_E b hb) hf;have eS:(trR ops st w0).S env.length=fun w w'=>Below w.heap.size w w':=by funext w w';simp only [trR,zGI,hs]
 rw [eS];unfold z07 at h3;unfold steps
 revert h3
 cases (execOp a.eval o).run P w with
 |ok n w'=>
  cases n<;>simp only [z0G,z0T]<;>first|exact fun h=>h|exact fun h=>h.2.mono fun e w'' ⟨v,he,hb,hv⟩=>⟨v,he,z14 h.1 hb,hv⟩
 |halt x w'=>simp only [z0G,z0T];exact fun h=>h
theorem z2y{c:Value}(hw:Region.wanted o (yielded ops a.tmps)=true)(hs:st.find? (fun p=>p.i==env.length)=none)
 (h1:∀w,Turn (trE st) w0 w→(∀e∈o.after,Region.binds .any e=true→∀ (x:Value) (W:VP),env[e.on]? =some (x,W)→W x w)→z07 P o a w (Is c))
 (h2:∀K:Act→Prop,(∀a',z16 P ops (trR ops st w0) Q rest Vs (env++ [(c,Is c)]) a'→K a')→K (a.put o.dst c)):z16 P ops (trR ops st w0) Q (o::rest) (Is c::Vs) env a:=
 z1Y hw hs h1 fun x ⟨_,_,hx⟩=>by
  obtain rfl:x=c:=hx;exact h2
theorem z1U(hw:Region.wanted o (yielded ops a.tmps)=false)(h2:∀K:Act→Prop,(∀a',z16 P ops (trR ops st w0) Q rest Vs (env++ [(undef,Is undef)]) a'→K a')→K (a.put o.dst undef)):z16 P ops (trR ops st w0) Q (o::rest) (Is undef::Vs) env a:=by
 refine⟨by rw [if_neg (by rw [hw];simp)];exact fun _ _=>rfl,fun x ⟨w,_,hx⟩=> ?_⟩;obtain rfl:x=undef:=hx;exact h2 _ fun _ h=>h
theorem z3e{V:VP}(p:TrP)(hw:Region.wanted o (yielded ops a.tmps)=true)(hs:st.find? (fun p=>p.i==env.length)=some p)
 (h1:∀w,Turn (trX ops st env.length) w0 w→(∀e∈o.after,Region.binds .any e=true→∀ (x:Value) (W:VP),env[e.on]? =some (x,W)→W x w)→steps P o a w p.T V)
 (h2:∀x,(∃w,Turn (trE st) w0 w∧V x w)→∀K:Act→Prop,(∀a',z16 P ops (trR ops st w0) Q rest Vs (env++ [(x,V)]) a'→K a')→K (a.put o.dst x)):z16 P ops (trR ops st w0) Q (o::rest) (V::Vs) env a:=by
 refine⟨?_,fun x hx=>h2 x hx _ fun _ h=>h⟩;rw [if_pos hw];intro w hC hf;have eS:(trR ops st w0).S env.length=p.T:=by funext w w';simp only [trR,zGI,hs]
 rw [eS];exact h1 w hC hf
theorem z8w(h:∀w,Turn (trE st) w0 w→(∀ (j:Nat) (x:Value) (W:VP),env[j]? =some (x,W)→W x w)→Q a w):z16 P ops (trR ops st w0) Q [] [] env a:=h
theorem Is.tstays(c:Value)(T:World→World→Prop):z2j T (Is c):=fun _ _ _ _ h=>h
theorem okTr(c:Value)(j:Nat):Stays (Is c)∧∀p∈st,p.i≠j→z0r ops j p.i=false→z2j p.T (Is c):=⟨Stays.is c,fun p _ _ _=>Is.tstays c p.T⟩
end
theorem zIn{ops:Array Oper}{p:TrP}{j:Nat}{V:VP}(hS:Stays V)(h1:p.i=j∨z0r ops j p.i=true∨z2j p.T V):Stays V∧∀r∈ [p],r.i≠j→z0r ops j r.i=false→z2j r.T V:=
 ⟨hS,fun r hr hne hw=>by
   obtain rfl:=List.mem_singleton.1 hr;exact(h1.resolve_left hne).resolve_left (by rw [hw];simp)⟩
theorem z7N{ops:Array Oper}{p q:TrP}{j:Nat}{V:VP}(hS:Stays V)(h1:p.i=j∨z0r ops j p.i=true∨z2j p.T V)(h2:q.i=j∨z0r ops j q.i=true∨z2j q.T V):Stays V∧∀r∈ [p,q],r.i≠j→z0r ops j r.i=false→z2j r.T V:=
 ⟨hS,fun r hr hne hw=>by
   rcases List.mem_cons.1 hr with rfl|hr
   ·exact(h1.resolve_left hne).resolve_left (by rw [hw];simp)
   ·obtain rfl:=List.mem_singleton.1 hr;exact(h2.resolve_left hne).resolve_left (by rw [hw];simp)⟩
theorem trX2a{ops:Array Oper}{p q:TrP}{j b:Nat}(h:trX ops [p,q] j b)(hp:p.i=j):q.F b:=by
 obtain⟨r,hr,hne,_,hF⟩:=h;rcases List.mem_cons.1 hr with rfl|hr
 ·exact absurd hp hne
 ·obtain rfl:=List.mem_singleton.1 hr;exact hF
theorem trX2b{ops:Array Oper}{p q:TrP}{j b:Nat}(h:trX ops [p,q] j b)(hq:q.i=j):p.F b:=by
 obtain⟨r,hr,hne,_,hF⟩:=h;rcases List.mem_cons.1 hr with rfl|hr
 ·exact hF
 ·obtain rfl:=List.mem_singleton.1 hr;exact absurd hq hne
theorem trE1{p:TrP}{b:Nat}:trE [p] b↔p.F b:=by simp [trE]
theorem zJh{p q:TrP}{b:Nat}:trE [p,q] b↔p.F b∨q.F b:=by simp [trE]
section
variable {F:Nat→Prop} {w w':World}
theorem Turn.cell(h:Turn F w w'){b k:Nat}{v:Value}(hc:w.cell? ⟨b,k,none⟩=some v)(hF:¬F b):w'.cell? ⟨b,k,none⟩=some v:=
 (World.cell?_of_block (a:=⟨b,k,none⟩) (h.block b (World.block_lt_of_cell? w ⟨b,k,none⟩ hc) hF)).trans hc
theorem z2X{B n size:Nat}{e:TypeId}{v:Value}{xs:List Value}(h:w.ownsRow B e size v n xs)(k:Turn F w w')(hF:∀g,v.ownBlock=some g→¬F g):w'.ownsRow B e size v n xs:=by
 refine⟨h.1,?_⟩;rcases h.2 with h2|⟨g,cap,cur,hv,hg,hh,r⟩
 ·exact .inl h2
 ·exact .inr ⟨g,cap,cur,hv,hg,(k.block g (lt_of_block hh) (hF g (by rw [hv];rfl))).trans hh,r⟩
def VRow(B:Nat)(e:TypeId)(size n:Nat)(xs:List Value)(ob:Option Nat)(s0:Nat):VP:=fun v w=>(∃A c,v= .slice A n c)∧w.ownsRow B e size v n xs∧(v.ownBlock=ob∨∃g,v.ownBlock=some g∧s0≤g)
theorem VRow.stays{B:Nat}{e:TypeId}{size n:Nat}{xs:List Value}{ob:Option Nat}{s0:Nat}:Stays (VRow B e size n xs ob s0):=fun v w w' hb h=>⟨h.1,z2X h.2.1 (Turn.of_below (F:=fun _=>False) hb) (fun _ _=>id),h.2.2⟩
theorem VRow.tstays{B:Nat}{e:TypeId}{size n:Nat}{xs:List Value}{ob:Option Nat}{s0:Nat}(h0:∀g,ob=some g→¬F g)(h1:∀g,F g→g<s0):z2j (Turn F) (VRow B e size n xs ob s0):=fun v w w' hT h=>
 ⟨h.1,z2X h.2.1 hT fun g hg hF=>by
   rcases h.2.2 with h2|⟨g',h2,h3⟩
   ·exact h0 g (h2▸hg) hF
   ·rw [hg]at h2;injection h2 with h2
    have:=h1 g hF;omega,h.2.2⟩
def VSl(s0 size n:Nat)(xs:List Value):VP:=fun v w=>(∃A k c,v= .slice A k c)∧Sl (fun b=>s0≤b∧b<w.heap.size) w size v n xs
theorem VSl.stays{s0 size n:Nat}{xs:List Value}:Stays (VSl s0 size n xs):=fun v w w' hb h=>⟨h.1,(Sl.below h.2 hb fun b h=>h.2).more fun b h=>⟨h.1,Nat.lt_of_lt_of_le h.2 hb.size⟩⟩
theorem VSl.tstays{s0 size n:Nat}{xs:List Value}(h1:∀g,F g→g<s0):z2j (Turn F) (VSl s0 size n xs):=fun v w w' hT h=>
 ⟨h.1,(Sl.keep h.2 fun b o hb=>World.cell?_of_block (hT.block b hb.2 fun hF=>by have:=h1 b hF;omega)).more fun b h=>⟨h.1,Nat.lt_of_lt_of_le h.2 hT.size⟩⟩
theorem z1s{P:Program}{o:Oper}{a:Act}{s x:Operand}{t e:TypeId}{z:Value}{size bytes:Nat}(E:Elem P t e z size bytes)(ho:o.op= .call {callee:= .builtin .append,args:= #[s,x],argTypes:= #[t,t]})
 {B:Nat} {v:Value} {n:Nat} {xs:List Value} (hown:w.ownsRow B e size v n xs) {S:Nat→Prop} {u:Value} {m:Nat} {news:List Value} (hr:Sl S w size u m news) (hs:a.eval s=v) (hx:a.eval x=u) (h1:∀y∈news,y.oneCell'=true)
 (hlen:n+m≤maxLen) (hbytes:(n+m)*bytes≤140737488355328) (hB:B≤w.heap.size) {s0:Nat} (h0:s0≤w.heap.size):steps P o a w (Turn fun b=>v.ownBlock=some b) (VRow B e size (n+m) (xs++news) v.ownBlock s0):=by
 obtain⟨v',w',hrun,h2,h3,h4⟩:=z1b (P:=P) w E o.type hown hr h1 hlen hbytes hB;obtain⟨A,k,c,rfl⟩:=z0p h2;obtain rfl:=z0V h2;unfold steps execOp;simp only [ho,resolve,invoke,builtin,Sem.run_bind,Sem.run_pure,Result.andThen_ok,List.map_toArray,List.map_cons,List.map_nil,hs,hx,hrun,z0T];refine⟨Turn.of_grown h3 fun z hz=>hz,⟨A,c,rfl⟩,h2,?_⟩;rcases h4 with h4|h4
 ·exact .inl h4
 ·exact .inr ⟨_,h4,h0⟩
end
end
section
open Go Go.RowKit
set_option linter.unusedSimpArgs false
def DIs(c:Value):DP:=fun _=>Is c
def DV(V:VP):DP:=fun _=>V
def okD(ops:Array Oper)(st:List TrP)(j:Nat)(D:DP):Prop:=
 (∀y,Stays (D y))∧(∀p∈st,p.i≠j→z0r ops j p.i=false→∀y,z2j p.T (D y))∧∀y y':Nat→Value,(∀i,z0r ops j i=true→y i=y' i)→D y=D y'
def zHU(ops:Array Oper)(st:List TrP):Nat→List DP→Prop
 |_,[]=>True
 |j,D::Ds=>okD ops st j D∧zHU ops st (j+1) Ds
theorem zIz{ops:Array Oper}{st:List TrP}:∀ {Ds:List DP} {n:Nat},zHU ops st n Ds→∀j,j<Ds.length→okD ops st (n+j) (z4H Ds j)
 |D::Ds,n,h,0,_=>h.1
 |D::Ds,n,h,j+1,hj=>by
  have:=zIz h.2 j (by simp only [List.length_cons]at hj;omega);rw [show n+1+j=n+(j+1)from by omega]at this;exact this
section
variable {P:Program} {ops:Array Oper} {st:List TrP} {w0:World}
theorem zJ0{Ds:List DP}(hlen:Ds.length=ops.size)(h:zHU ops st 0 Ds):(trR ops st w0).OkD ops Ds:=by
 have h0:=zIL (ops:=ops) (st:=st) (w0:=w0) (Vs:=List.replicate ops.size (Is undef)) (by simp) (by
  have:∀n k,zEg ops st k (List.replicate n (Is undef)):=by
   intro n
   induction n with
   |zero=>exact fun _=>trivial
   |succ n ih=>exact fun k=>⟨okTr _ _,ih _⟩
  exact this _ _)
 refine⟨fun i j hi hj hne hwt y x w w' hS hv=> ?_,h0.C,h0.E,fun j hj y y' hy=> ?_⟩
 ·have h1:=zIz h j (by omega);rw [Nat.zero_add]at h1;simp only [trR,zGI]at hS
  split at hS
  ·rename_i p hp;obtain⟨hm,rfl⟩:=z8p hp;exact h1.2.1 p hm hne hwt y x w w' hS hv
  ·exact h1.1 y x w w' hS hv
 ·have h1:=zIz h j (by omega);rw [Nat.zero_add]at h1;exact h1.2.2 y y' hy
theorem z3P{id:Nat}{Q':Exit→Act→World→Prop}{l:List Oper}{a0:Act}(st:List TrP)(hm:P.follows .mixedOrders=true)(hg:z2Y l.toArray=true)
 (h:∃Ds,z2R P l.toArray (trR l.toArray st w0) (fun a w=>Q' .normal a w) l Ds [] a0∧zHU l.toArray st 0 Ds∧Ds.length=l.length):(Code.region id l.toArray true).wp P Q' a0 w0:=by
 obtain⟨Ds,h0,hS,hlen⟩:=h;exact z8b l hm hg (zJ0 (by simpa using hlen) hS) hlen ((Turn.refl _ _).drew) (fun _ _=>(Turn.refl _ _).drew) h0
variable {Q:Act→World→Prop} {a:Act} {o:Oper} {rest:List Oper} {Ds:List DP} {env:List (Value×VP)}
theorem zHg{D:DP}(hw:Region.wanted o (yielded ops a.tmps)=true)(hs:st.find? (fun p=>p.i==env.length)=none)
 (h1:∀w,Turn (trE st) w0 w→(∀e∈o.after,Region.binds .any e=true→∀ (x:Value) (W:VP),env[e.on]? =some (x,W)→W x w)→z07 P o a w (D (yOf env)))
 (h2:∀x,(∃w,Turn (trE st) w0 w∧D (yOf env) x w)→∀K:Act→Prop,(∀a',z2R P ops (trR ops st w0) Q rest Ds (env++ [(x,D (yOf env))]) a'→K a')→K (a.put o.dst x)):z2R P ops (trR ops st w0) Q (o::rest) (D::Ds) env a:=by
 refine⟨?_,fun x hx=>h2 x hx _ fun _ h=>h⟩;rw [if_pos hw];intro w hC hf;have h3:=h1 w (Turn.mono hC fun b hb _=>trX_E b hb) hf;have eS:(trR ops st w0).S env.length=fun w w'=>Below w.heap.size w w':=by funext w w';simp only [trR,zGI,hs]
 rw [eS];unfold z07 at h3;unfold steps
 revert h3
 cases (execOp a.eval o).run P w with
 |ok n w'=>
  cases n<;>simp only [z0G,z0T]<;>first|exact fun h=>h|exact fun h=>h.2.mono fun e w'' ⟨v,he,hb,hv⟩=>⟨v,he,z14 h.1 hb,hv⟩
 |halt x w'=>simp only [z0G,z0T];exact fun h=>h
theorem z8P{c:Value}(hw:Region.wanted o (yielded ops a.tmps)=true)(hs:st.find? (fun p=>p.i==env.length)=none)
 (h1:∀w,Turn (trE st) w0 w→(∀e∈o.after,Region.binds .any e=true→∀ (x:Value) (W:VP),env[e.on]? =some (x,W)→W x w)→z07 P o a w (Is c))
 (h2:∀K:Act→Prop,(∀a',z2R P ops (trR ops st w0) Q rest Ds (env++ [(c,Is c)]) a'→K a')→K (a.put o.dst c)):z2R P ops (trR ops st w0) Q (o::rest) (DIs c::Ds) env a:=
 zHg (D:=DIs c) hw hs h1 fun x ⟨_,_,hx⟩=>by
  obtain rfl:x=c:=hx;exact h2
theorem z53(hw:Region.wanted o (yielded ops a.tmps)=false)(h2:∀K:Act→Prop,(∀a',z2R P ops (trR ops st w0) Q rest Ds (env++ [(undef,Is undef)]) a'→K a')→K (a.put o.dst undef)):z2R P ops (trR ops st w0) Q (o::rest) (DIs undef::Ds) env a:=by
 refine⟨by rw [if_neg (by rw [hw];simp)];exact fun _ _=>rfl,fun x ⟨w,_,hx⟩=> ?_⟩;obtain rfl:x=undef:=hx;exact h2 _ fun _ h=>h
theorem zEj{D:DP}(p:TrP)(hw:Region.wanted o (yielded ops a.tmps)=true)(hs:st.find? (fun p=>p.i==env.length)=some p)
 (h1:∀w,Turn (trX ops st env.length) w0 w→(∀e∈o.after,Region.binds .any e=true→∀ (x:Value) (W:VP),env[e.on]? =some (x,W)→W x w)→steps P o a w p.T (D (yOf env)))
 (h2:∀x,(∃w,Turn (trE st) w0 w∧D (yOf env) x w)→∀K:Act→Prop,(∀a',z2R P ops (trR ops st w0) Q rest Ds (env++ [(x,D (yOf env))]) a'→K a')→K (a.put o.dst x)):z2R P ops (trR ops st w0) Q (o::rest) (D::Ds) env a:=by
 refine⟨?_,fun x hx=>h2 x hx _ fun _ h=>h⟩;rw [if_pos hw];intro w hC hf;have eS:(trR ops st w0).S env.length=p.T:=by funext w w';simp only [trR,zGI,hs]
 rw [eS];exact h1 w hC hf
theorem z5E{V:VP}(p:TrP)(hw:Region.wanted o (yielded ops a.tmps)=true)(hs:st.find? (fun p=>p.i==env.length)=some p)
 (h1:∀w,Turn (trX ops st env.length) w0 w→(∀e∈o.after,Region.binds .any e=true→∀ (x:Value) (W:VP),env[e.on]? =some (x,W)→W x w)→steps P o a w p.T V)
 (h2:∀x,(∃w,Turn (trE st) w0 w∧V x w)→∀K:Act→Prop,(∀a',z2R P ops (trR ops st w0) Q rest Ds (env++ [(x,V)]) a'→K a')→K (a.put o.dst x)):z2R P ops (trR ops st w0) Q (o::rest) (DV V::Ds) env a:=
 zEj (D:=DV V) p hw hs h1 h2
theorem z8j(h:∀w,Turn (trE st) w0 w→(∀ (j:Nat) (x:Value) (W:VP),env[j]? =some (x,W)→W x w)→Q a w):z2R P ops (trR ops st w0) Q [] [] env a:=h
theorem zEk(c:Value)(j:Nat):okD ops st j (DIs c):=⟨fun _=>Stays.is c,fun p _ _ _ _=>Is.tstays c p.T,fun _ _ _=>rfl⟩
theorem zJV{V:VP}{j:Nat}(h1:Stays V)(h2:∀p∈st,p.i≠j→z0r ops j p.i=false→z2j p.T V):okD ops st j (DV V):=⟨fun _=>h1,fun p hp hn hw _=>h2 p hp hn hw,fun _ _ _=>rfl⟩
end
end
section
open Go Go.RowKit
theorem pg_in{Z:Pz}{P:Pgr}{w:World}(p:Pg w Z P):∀i,P.has i=true→0≤i∧i<90:=fun i h=>by
 unfold Pgr.has at h;simp only [Bool.or_eq_true,Bool.and_eq_true]at h;rcases h with h|h
 ·first|exact p.wr.in90 i h|exact p.wr.in90 i h.1|exact p.tb.in90 i h.1
 ·first|exact p.wr.in90 i h|exact p.tb.in90 i h.1|exact p.wr.in90 i h.1
theorem zJP{P:Pgr}{c:Int→List UInt8}{i:Int}{x:Pag}(h:P.pg c i=some x):P.has i=true:=by
 unfold Pgr.pg Pgr.page at h;cases hh:P.has i with
 |true=>rfl
 |false=>rw [hh]at h;simp at h
theorem Tg.hpf{w:World}{g:Nat}{Z:Pz}{P:Pgr}{c:Int→List UInt8}(t:Tg w g Z P c):∀i x,P.pg c i=some x→POk x∧0≤i∧i<90:=fun i x h=>⟨pg_ok h,pg_in t.pg i (zJP h)⟩
def chkF(F:Option ChT)(n:Nat):Bool:=match F with
 |none=>false
 |some s=>z2Q s.leaves&&decide (s.seen.length=n)
theorem chkT_F(pf:PF)(n:Nat):zGG pf n=chkF (z1k pf 91 [zEB] ⟨[],[],0⟩) n:=rfl
theorem zCW{w:World}{b n:Nat}{f:Int→Option Value}{P:Program}{k:TypeId}(h:MpV P k w b f n){B:Nat}{e:TypeId}{size m:Nat}{v:Value}{xs:List Value}(ho:w.ownsRow B e size v m xs):v.ownBlock≠some b:=fun e'=>by
 rcases ho.2 with⟨rfl,_⟩|⟨g,cap,cur,rfl,_,hh,_⟩
 ·simp [Value.ownBlock]at e'
 ·simp [Value.ownBlock]at e';subst e';obtain⟨es,cl,h2⟩:=h.isMap;rw [hh]at h2;cases h2
theorem CkSt.leaf{w wr w':World}{bm:Nat}{tv lv iv lv' iv':Value}{td:List Und}{s:ChT}(h:CkSt w wr bm tv lv iv td s){F:Nat→Prop}(hT:Turn F wr w')(hF:∀b,F b→lv.ownBlock=some b∨iv.ownBlock=some b){i:Int}{x:Pag}{u:Value}(hu:∃A k c,u= .slice A k c){d:Nat}
 {us:List Value} (h1:us.length=s.leaves.length) (h2:wr.ownsRow w.heap.size 186 3 lv s.leaves.length (lfC (s.leaves.zip us))) (h5:∀u∈us,∃A k c,u= .slice A k c)
 (h3:w'.ownsRow w.heap.size 186 3 lv' (s.leaves.length+1) (lfC (s.leaves.zip us)++([.bool x.1,.int .i64 (x.2.1:Int),u]:List Value)))
 (h8:w'.ownsRow w.heap.size 3 1 iv' (s.leaves.length+1) (idC s.leaves++([.int .i64 i]:List Value))):CkSt w w' bm tv lv' iv' td ⟨s.leaves++ [(i,x)],s.seen,d⟩:=by
 obtain⟨f,h4,h6⟩:=h.seen;have hlv:=h2;have hne:∀b,F b→w.heap.size≤b:=fun b hb=>by
  rcases hF b hb with e|e
  ·exact(h2.lt b e).1
  ·exact(h.ids.lt b e).1
 refine⟨z2X h.todo hT fun g hg hb=> ?_,⟨us++ [u],by simp [h1],?_,fun y hy=> ?_⟩,?_,⟨f,h4.at (hT.block bm h4.lt fun hb=> ?_),h6⟩,Turn.below h.below hT h.below.size hne⟩
 ·rcases hF g hb with e|e
  ·exact z86 h.todo h2 (by decide) g hg e
  ·exact z86 h.todo h.ids (by decide) g hg e
 ·rw [List.zip_append h1.symm,zEK,List.length_append];exact h3
 ·rcases List.mem_append.1 hy with hy|hy
  ·exact h5 y hy
  ·obtain rfl:=List.mem_singleton.1 hy;exact hu
 ·rw [List.length_append];unfold idC at h8 ⊢;rw [List.map_append];exact h8
 ·rcases hF bm hb with e|e
  ·exact zCW h4 h2 e
  ·exact zCW h4 h.ids e
theorem zIu{l:List (Int×Pag)}{us:List Value}{i:Nat}{yi:Int}{yl:Bool}{yn:Nat}{yc:List Cel}{u:Value}(h:i<l.length)(hu:i<us.length)(hy:l[i]=(yi,yl,yn,yc))(hue:us[i]=u):∀j v,([.bool yl,.int .i64 (yn:Int),u]:List Value)[j]? =some v→(lfC (l.zip us))[i*3+j]? =some v:=by
 intro j v hv;have hz:i<(l.zip us).length:=by rw [List.length_zip];omega
 have e:l.zip us=(l.zip us).take i++((l.zip us)[i]::(l.zip us).drop (i+1)):=by rw [←List.drop_eq_getElem_cons hz,List.take_append_drop]
 have hl:((l.zip us).take i).length=i:=by rw [List.length_take];omega
 rw [e,zEK,List.getElem?_append_right (by rw [zER,hl];omega),zER,hl,Nat.add_sub_cancel_left];have e2:lfC ((l.zip us)[i]::(l.zip us).drop (i+1))=([.bool yl,.int .i64 (yn:Int),u]:List Value)++lfC ((l.zip us).drop (i+1)):=by
  rw [List.getElem_zip,hy,hue];rfl
 rw [e2,List.getElem?_append_left (List.getElem?_eq_some_iff.1 hv).1];exact hv
theorem zJa(a b:Nat):((a:Int)==(b:Int))=decide (a=b):=by
 by_cases h:a=b
 ·subst h;simp
 ·rw [decide_eq_false h,beq_eq_false_iff_ne.2 (by omega)]
noncomputable def zGX(w:World)(b:Nat):Nat:=Classical.epsilon fun n=>∃f,MpV Tryz.prog 3 w b f n
theorem MpV.cnt{w:World}{b n:Nat}{f:Int→Option Value}(h:MpV Tryz.prog 3 w b f n):zGX w b=n:=by
 obtain⟨f',h'⟩:∃f,MpV Tryz.prog 3 w b f (zGX w b):=Classical.epsilon_spec (p:=fun n=>∃f,MpV Tryz.prog 3 w b f n) ⟨n,f,h⟩;have h1:=h.len z1J zIc 3;rw [h'.len z1J zIc 3]at h1;injection h1 with h1
 injection h1 with _ h1
 omega
def zJN(b:Bool)(w:World)(e:Ending)(w':World):Prop:=e= .returned (.bool b)∧Below w.heap.size w w'
def opP(P:Pgr):Pgr:=if P.pages.length=0 then P.wp 0 (true,0,[])else P
def z4f(Z:Pz)(P:Pgr)(c:Int→List UInt8)(w:World)(e:Ending)(w':World):Prop:=
 Ptp Z w Z w'∧Pg w' Z (opP P)∧Kin P (opP P)∧((zGG ((opP P).pg c) (opP P).pages.length=true∧∃g,w.heap.size≤g∧e= .returned (.tuple #[.pointer (some ⟨g,0,none⟩),.int .i64 0])∧Tg w' g Z (opP P) c)∨
  (zGG ((opP P).pg c) (opP P).pages.length=false∧e= .returned (.tuple #[.pointer none,.int .i64 142])))
theorem zJD:Mid []:=⟨by simp,fun c h=>by cases h⟩
end
end Go.Proofs.YtdkobefpnjbgnaaGreatDoor
