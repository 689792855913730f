/- MovePuts holds of every input that can be read, in whatever memory. The table of bits reads as the program's text lays it (the card ties it). -/
import Derived.Test.YtdkobefpnjbgnaaGreatDoorMovePutsJ40
import Derived.Test.YtdkobefpnjbgnaaGreatDoorCards
import Derived.Test.YtdkobefpnjbgnaaGreatDoorTie
namespace Go.Proofs.YtdkobefpnjbgnaaGreatDoor.movePuts
set_option linter.unusedVariables false
set_option maxHeartbeats 16000000
set_option maxRecDepth 100000
section
open Go.ChangeShapes Go.WideShapes Go.ChangeAt Go.RowKit
open Go.ChangeMaps (open_string shut_string)
theorem zGO(H:Type)(enc:TypeId×Value→H)(W:World)(base:Nat)(args:Array Value)(ds gs:List (DataW H))(before:List MemPlace)
 (hval:∀ (j:Nat) t v,Tryz.f3.params[j]? =some t→args[j]? =some v→Value.okWide Tryz.prog W .any base t v)
 (hW:DataW.Whole enc Tryz.prog Tryz.f3.params.toList Rows.movePutsSpec.vars false W args.toList ds gs before) (hL:laidMetH Tryz.prog Rows.movePutsRow.laid W)
 (hz:(DataW.weightsEach Tryz.prog (Tryz.f3.params.toList++(OpenSpec.ofChange Rows.movePutsSpec).bare.plain.varTypes Tryz.prog) (ds++gs)).all (· ≤reachBytes)=true):
 Calls Tryz.prog 3 args W fun e W'=>∃v,e= .returned v∧Rows.movePutsSpec.post enc Tryz.prog Tryz.f3 false true false false W args v W':=by
 have hW':=hW;obtain⟨p,q,hA0,hV,rfl,hfz,hnd⟩:=hW;have hA:DataW.TrodAll enc Tryz.prog W 0 (fun _=>true) true Tryz.f3.params.toList args.toList ds p:=hA0;rw [Tryz.params3]at hA hval hz;obtain⟨v0,vs0,d0,ds0,p0,q0,hargs,rfl,rfl,h0,r0⟩:=trodAll_cons hA;obtain⟨rfl,rfl,rfl⟩:=trodAll_nil r0;obtain rfl:args= #[v0]:=by cases args;simp_all
 obtain⟨rfl,rfl⟩:=trodVars_none hV;have hz0:Szd Tryz.prog 22 d0:=fun n hn=>by
  have h:=List.all_eq_true.1 hz n (DataW.weights_mem_each (j:=0) rfl rfl n hn);simpa using h
 obtain⟨l0,hp0⟩:=zFP Tryz.underlying22 Tryz.underlying46 (by kernel_rfl) (by kernel_rfl) Tryz.underlying9 rfl Tryz.underlying44 Tryz.underlying73 (by kernel_rfl) (by kernel_rfl) Tryz.underlying39 Tryz.underlying9 Tryz.underlying4 (hval 0 22 v0 rfl rfl) h0 hz0;clear hA0;have hwalk:=law_MovePuts v0 l0 W (bitsOk hL) hp0;refine hwalk.mono fun e W' ⟨he,bel⟩=> ?_
 subst he;exact⟨_,rfl,law_post kids full (by rw [Tryz.params3];exact of_decide_eq_true (by kernel_rfl)) rfl hW' bel rfl rfl (trodAll_mk1 (shut_bool Tryz.underlying4 _))⟩
theorem zGw(os:Os):laidMet Tryz.prog Rows.movePutsRow.laid ((z6X os).forCall (fun _ _=>0) ⟨#[],#[.slice none 0 0],[]⟩).memory:=
 laidMet_of_run' 8 (by kernel_rfl) (by kernel_rfl)
theorem reads(os:Os){H:Type}(enc:TypeId×Value→H):∃places,DataW.whole enc Tryz.prog ((z6X os).forCall (fun _ _=>0) ⟨#[],#[.slice none 0 0],[]⟩).memory Tryz.f3.params.toList Rows.movePutsSpec.vars false (#[.slice none 0 0]:Array Value).toList 8=some ([.nil],[],places):=
 ⟨[],by kernel_rfl⟩
theorem lifted(os:Os)(started:os.Started)(H:Type)(enc:TypeId×Value→H)(F:Stop.Interp):
 ReturnsInHanded {} Tryz.checked os 3 .any ((OpenSpec.ofChange Rows.movePutsSpec).preRow enc Tryz.prog Tryz.f3 Rows.movePutsRow.domain false Rows.movePutsRow.laid) (((OpenSpec.ofChange Rows.movePutsSpec).at F).post enc Tryz.prog Tryz.f3 false true false false):=by
 obtain⟨places,hx⟩:=reads os enc;refine returnsInHanded_of_row (C:=Tryz.checked) (s:=OpenSpec.ofChange Rows.movePutsSpec) own started (by kernel_rfl) Tryz.func3
  (witness_row_at (enc:=enc) (C:=Tryz.checked) false (z6X os) #[.slice none 0 0] rfl (by kernel_rfl) (by kernel_rfl) (by kernel_rfl)
    (OpenSpec.preRow_of_cond 8 hx (by kernel_rfl) (fun k hk=>by cases hk) (by kernel_rfl) (zGw os))) ?_
 intro W base args ds gs before hval hW _ _ hz hL _ _;exact zGO H enc W base args ds gs before hval hW hL hz
theorem said:Rows.MovePutsSaid:=
 OpenClaim.holds_of_cond 3 Tryz.f3 rfl rfl rfl rfl rfl rfl rfl ⟨rfl,rfl,rfl,rfl,rfl⟩ rfl rfl rfl rfl rfl (by kernel_rfl) Tryz.func3 (by kernel_rfl)
  (of_decide_eq_true (by kernel_rfl)) (by unfold Func.isWrapper;first|(rw [if_pos (by decide+kernel)];kernel_rfl)|(rw [if_neg (by decide+kernel)];exact⟨rfl,rfl⟩))
  (fun os started H enc _ F=>by rw [OpenClaim.pre_eq_preRow];exact lifted os started H enc F)
theorem plain(f:FuncId)(fn:Func)(hf:Tryz.pinned.checked.prog.funcNamed "lapstone/lapstonelaw28.MovePuts" =some f)(hfn:Tryz.pinned.checked.prog.funcs[f]? =some fn):
 false=Tryz.pinned.checked.prog.looks []∧∀ (j:Nat) t,fn.params[j]? =some t→Tryz.pinned.checked.prog.wantsStandIn t=false:=by
 obtain rfl:f=3:=Option.some.inj ((show Tryz.prog.funcNamed "lapstone/lapstonelaw28.MovePuts" =some 3 by kernel_rfl).symm.trans hf) |>.symm;obtain rfl:fn=Tryz.f3:=(Option.some.inj (Tryz.func3.symm.trans hfn)).symm;refine⟨by kernel_rfl,fun j t ht=> ?_⟩;rw [Tryz.params3]at ht;have hm:=Array.mem_of_getElem? ht;simp only [List.mem_toArray,List.mem_cons,List.not_mem_nil,or_false]at hm;subst hm
 ·exact(show Tryz.prog.wantsStandIn 22=false by kernel_rfl)
theorem card:Rows.MovePutsCardSaid:=
 Claim7.holds_tied_plain_at .later [] _ _ _ _ said (fun _ h=>by cases h) (by kernel_rfl) (fun _ h=>by cases h) movePuts_row_tie rfl ⟨rfl,rfl⟩ (by kernel_rfl) rfl plain (by kernel_rfl)
#print axioms card
end
end Go.Proofs.YtdkobefpnjbgnaaGreatDoor.movePuts
