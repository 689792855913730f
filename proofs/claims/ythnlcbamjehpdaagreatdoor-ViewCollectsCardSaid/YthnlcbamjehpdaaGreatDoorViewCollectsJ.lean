/- ViewCollects holds of every input that can be read, in whatever memory. The table of bits reads as the program's text lays it (the card ties it). -/
import Derived.Test.YthnlcbamjehpdaaGreatDoorViewCollectsJ49
import Derived.Test.YthnlcbamjehpdaaGreatDoorViewCollectsJ50
import Derived.Test.YthnlcbamjehpdaaGreatDoorCards
import Derived.Test.YthnlcbamjehpdaaGreatDoorTie
namespace Go.Proofs.YthnlcbamjehpdaaGreatDoor.viewCollects
set_option linter.unusedVariables false
set_option maxHeartbeats 16000000
set_option maxRecDepth 100000
section
open Go.ChangeShapes Go.WideShapes Go.ChangeAt Go.RowKit _root_.Go.Proofs.Tryz
open Go.ChangeMaps (open_string shut_string)
theorem zHM(H:Type)(enc:TypeId×Value->H)(W:World)(base:Nat)(args:Array Value)(ds gs:List (DataW H))(before:List MemPlace)
 (hval:∀ (j:Nat) t v,Tryz.f4.params[j]? =some t->args[j]? =some v->Value.okWide Tryz.prog W .any base t v)
 (hW:DataW.Whole enc Tryz.prog Tryz.f4.params.toList Rows.viewCollectsSpec.vars false W args.toList ds gs before) (hL:laidMetH Tryz.prog Rows.viewCollectsRow.laid W)
 (hz:(DataW.weightsEach Tryz.prog (Tryz.f4.params.toList++(OpenSpec.ofChange Rows.viewCollectsSpec).bare.plain.varTypes Tryz.prog) (ds++gs)).all (· <=reachBytes)=true):
 Calls Tryz.prog 4 args W fun e W'=>∃v,e= .returned v/\Rows.viewCollectsSpec.post enc Tryz.prog f4 false true false false W args v W':=by
 have hW':=hW;obtain⟨p,q,hA0,hV,rfl,hfz,hnd⟩:=hW;have hA:DataW.TrodAll enc Tryz.prog W 0 (fun _=>true) true Tryz.f4.params.toList args.toList ds p:=hA0;rw [params4]at hA hval hz;obtain⟨v0,vs0,d0,ds0,p0,q0,hargs,rfl,rfl,h0,r0⟩:=trodAll_cons hA;obtain⟨v1,vs1,d1,ds1,p1,q1,rfl,rfl,rfl,h1,r1⟩:=trodAll_cons r0;obtain⟨v2,vs2,d2,ds2,p2,q2,rfl,rfl,rfl,h2,r2⟩:=trodAll_cons r1;obtain⟨rfl,rfl,rfl⟩:=trodAll_nil r2;obtain rfl:args= #[v0,v1,v2]:=by cases args;simp_all
 obtain⟨rfl,rfl⟩:=trodVars_none hV;have hz0:Szd Tryz.prog 38 d0:=fun n hn=>by
  have h:=QI.1 hz n (DataW.weights_mem_each (j:=0) rfl rfl n hn);simpa using h
 obtain⟨l0,hp0⟩:=zDk underlying38 underlying46 (by kernel_rfl) (by kernel_rfl) underlying3 underlying3 underlying27 rfl underlying43 underlying66 (by kernel_rfl) (by kernel_rfl) underlying9 underlying9 underlying4 rfl underlying44 underlying332 (by kernel_rfl) (by kernel_rfl) underlying3 underlying3 (hval 0 38 v0 rfl rfl) h0 hz0;obtain⟨a1,rfl,rfl,rfl,b1⟩:=open_int underlying27 (hval 1 27 v1 rfl rfl) h1;obtain⟨a2,rfl,rfl,rfl,b2⟩:=open_string underlying9 (hval 2 9 v2 rfl rfl) h2;clear hA0;obtain⟨c1,rfl,g1⟩:=zGU b1;have hwalk:=law_ViewCollects v0 l0 c1 a2.data.toList W (bitsOk hL) hp0 g1 (zK7 b2);simp only [zK5]at hwalk;refine hwalk.mono fun e W' ⟨he,bel⟩=> ?_
 subst he;exact⟨_,rfl,law_post kids full (by rw [params4];exact of_decide_eq_true (by kernel_rfl)) rfl hW' bel rfl rfl (trodAll_mk1 (shut_bool underlying4 _))⟩
theorem zHa(os:Os):laidMet Tryz.prog Rows.viewCollectsRow.laid ((z73 os).forCall (fun _ _=>0) ⟨#[],#[.slice none 0 0,.int .u64 0,.string ByteArray.empty],[]⟩).memory:=
 laidMet_of_run' 8 (by kernel_rfl) (by kernel_rfl)
theorem reads(os:Os){H:Type}(enc:TypeId×Value->H):∃places,DataW.whole enc Tryz.prog ((z73 os).forCall (fun _ _=>0) ⟨#[],#[.slice none 0 0,.int .u64 0,.string ByteArray.empty],[]⟩).memory Tryz.f4.params.toList Rows.viewCollectsSpec.vars false (#[.slice none 0 0,.int .u64 0,.string ByteArray.empty]:Array Value).toList 8=some ([.nil,.lit (.int .u64 0),.lit (.string [])],[],places):=
 ⟨[],by kernel_rfl⟩
theorem lifted(os:Os)(started:os.Started)(H:Type)(enc:TypeId×Value->H)(F:Stop.Interp):
 ReturnsInHanded {} Tryz.checked os 4 .any ((OpenSpec.ofChange Rows.viewCollectsSpec).preRow enc Tryz.prog f4 Rows.viewCollectsRow.domain false Rows.viewCollectsRow.laid) (((OpenSpec.ofChange Rows.viewCollectsSpec).at F).post enc Tryz.prog f4 false true false false):=by
 obtain⟨places,hx⟩:=reads os enc;refine returnsInHanded_of_row (C:=Tryz.checked) (s:=OpenSpec.ofChange Rows.viewCollectsSpec) own started (by kernel_rfl) func4
  (witness_row_at (enc:=enc) (C:=Tryz.checked) false (z73 os) #[.slice none 0 0,.int .u64 0,.string ByteArray.empty] rfl (by kernel_rfl) (by kernel_rfl) (by kernel_rfl)
    (OpenSpec.preRow_of_cond 8 hx (by kernel_rfl) (fun k hk=>by cases hk) (by kernel_rfl) (zHa os))) ?_
 intro W base args ds gs before hval hW _ _ hz hL _ _;exact zHM H enc W base args ds gs before hval hW hL hz
theorem said:Rows.ViewCollectsSaid:=
 OpenClaim.holds_of_cond 4 f4 rfl rfl rfl rfl rfl rfl rfl ⟨rfl,rfl,rfl,rfl,rfl⟩ rfl rfl rfl rfl rfl (by kernel_rfl) func4 (by kernel_rfl)
  (of_decide_eq_true (by kernel_rfl)) (by unfold Func.isWrapper;first|(rw [yB (by decide+kernel)];kernel_rfl)|(rw [yA (by decide+kernel)];exact⟨rfl,rfl⟩))
  (fun os started H enc _ F=>by rw [OpenClaim.pre_eq_preRow];exact lifted os started H enc F)
theorem plain(f:FuncId)(fn:Func)(hf:Tryz.pinned.checked.prog.funcNamed "lapstone/lapstonelaw17.ViewCollects" =some f)(hfn:Tryz.pinned.checked.prog.funcs[f]? =some fn):
 false=Tryz.pinned.checked.prog.looks []/\∀ (j:Nat) t,fn.params[j]? =some t->Tryz.pinned.checked.prog.wantsStandIn t=false:=by
 obtain rfl:f=4:=YF ((show Tryz.prog.funcNamed "lapstone/lapstonelaw17.ViewCollects" =some 4 by kernel_rfl).symm.trans hf) |>.symm;obtain rfl:fn=f4:=(YF (Tryz.func4.symm.trans hfn)).symm;refine⟨by kernel_rfl,fun j t ht=> ?_⟩;rw [params4]at ht;have hm:=Array.mem_of_getElem? ht;simp only [List.mem_toArray,y9,yH,yp]at hm;rcases hm with rfl|rfl|rfl
 .exact(show Tryz.prog.wantsStandIn 38=false by kernel_rfl)
 .exact(show Tryz.prog.wantsStandIn 27=false by kernel_rfl)
 .exact(show Tryz.prog.wantsStandIn 9=false by kernel_rfl)
theorem card:Rows.ViewCollectsCardSaid:=
 Claim7.holds_tied_plain_at .later [] _ _ _ _ said (fun _ h=>by cases h) (by kernel_rfl) (fun _ h=>by cases h) viewCollects_row_tie rfl ⟨rfl,rfl⟩ (by kernel_rfl) rfl plain (by kernel_rfl)
#print axioms card
end
end Go.Proofs.YthnlcbamjehpdaaGreatDoor.viewCollects
