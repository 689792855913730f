/- MoveGets. -/
import Derived.Test.YtdkobefpnjbgnaaGreatDoorMoveGetsJ1
import Derived.Test.YtdkobefpnjbgnaaGreatDoorMovePutsJ1
import Derived.Test.YtdkobefpnjbgnaaGreatDoorMovePutsJ2
import Derived.Test.YtdkobefpnjbgnaaGreatDoorMovePutsJ3
import Derived.Test.YtdkobefpnjbgnaaGreatDoorMovePutsJ4
import Derived.Test.YtdkobefpnjbgnaaGreatDoorMovePutsJ5
import Derived.Test.YtdkobefpnjbgnaaGreatDoorMovePutsJ6
import Derived.Test.YtdkobefpnjbgnaaGreatDoorMovePutsJ7
import Derived.Test.YtdkobefpnjbgnaaGreatDoorMovePutsJ8
import Derived.Test.YtdkobefpnjbgnaaGreatDoorMovePutsJ9
import Derived.Test.YtdkobefpnjbgnaaGreatDoorMovePutsJ10
import Derived.Test.YtdkobefpnjbgnaaGreatDoorMovePutsJ11
import Derived.Test.YtdkobefpnjbgnaaGreatDoorMovePutsJ12
import Derived.Test.YtdkobefpnjbgnaaGreatDoorMovePutsJ13
import Derived.Test.YtdkobefpnjbgnaaGreatDoorMovePutsJ14
import Derived.Test.YtdkobefpnjbgnaaGreatDoorMovePutsJ15
import Derived.Test.YtdkobefpnjbgnaaGreatDoorMovePutsJ16
import Derived.Test.YtdkobefpnjbgnaaGreatDoorMovePutsJ17
import Derived.Test.YtdkobefpnjbgnaaGreatDoorMovePutsJ18
import Derived.Test.YtdkobefpnjbgnaaGreatDoorMovePutsJ19
import Derived.Test.YtdkobefpnjbgnaaGreatDoorMovePutsJ20
import Derived.Test.YtdkobefpnjbgnaaGreatDoorMovePutsJ21
import Derived.Test.YtdkobefpnjbgnaaGreatDoorMovePutsJ22
import Derived.Test.YtdkobefpnjbgnaaGreatDoorMovePutsJ23
import Derived.Test.YtdkobefpnjbgnaaGreatDoorMovePutsJ24
import Derived.Test.YtdkobefpnjbgnaaGreatDoorMovePutsJ25
import Derived.Test.YtdkobefpnjbgnaaGreatDoorMovePutsJ26
import Derived.Test.YtdkobefpnjbgnaaGreatDoorMovePutsJ27
import Derived.Test.YtdkobefpnjbgnaaGreatDoorMovePutsJ28
import Derived.Test.YtdkobefpnjbgnaaGreatDoorMovePutsJ29
import Derived.Test.YtdkobefpnjbgnaaGreatDoorMovePutsJ30
import Derived.Test.YtdkobefpnjbgnaaGreatDoorMovePutsJ31
import Derived.Test.YtdkobefpnjbgnaaGreatDoorMovePutsJ32
import Derived.Test.YtdkobefpnjbgnaaGreatDoorMovePutsJ33
import Derived.Test.YtdkobefpnjbgnaaGreatDoorMovePutsJ34
import Derived.Test.YtdkobefpnjbgnaaGreatDoorMovePutsJ35
import Derived.Test.YtdkobefpnjbgnaaGreatDoorMovePutsJ36
import Derived.Test.YtdkobefpnjbgnaaGreatDoorMovePutsJ37
import Derived.Test.YtdkobefpnjbgnaaGreatDoorMovePutsJ38
import Derived.Test.YtdkobefpnjbgnaaGreatDoorMovePutsJ39
import Derived.Test.YtdkobefpnjbgnaaGreatDoorMovePutsJ40
import Derived.Test.YtdkobefpnjbgnaaGreatDoorCards
import Derived.Test.YtdkobefpnjbgnaaGreatDoorTie
namespace Go.Proofs.YtdkobefpnjbgnaaGreatDoor.moveGets
set_option linter.unusedVariables false
set_option maxHeartbeats 16000000
set_option maxRecDepth 100000
section
open Go.ChangeShapes Go.WideShapes Go.ChangeAt Go.RowKit
open Go.ChangeMaps (open_string shut_string)
theorem zGO(H:Type)(enc:TypeId×Value→H)(W:World)(base:Nat)(args:Array Value)(ds gs:List (DataW H))(before:List MemPlace)
 (hval:∀ (j:Nat) t v,Tryz.f4.params[j]? =some t→args[j]? =some v→Value.okWide Tryz.prog W .any base t v)
 (hW:DataW.Whole enc Tryz.prog Tryz.f4.params.toList Rows.moveGetsSpec.vars false W args.toList ds gs before) (hL:laidMetH Tryz.prog Rows.moveGetsRow.laid W):
 Calls Tryz.prog 4 args W fun e W'=>∃v,e= .returned v∧Rows.moveGetsSpec.post enc Tryz.prog Tryz.f4 false true false false W args v W':=by
 have hW':=hW;obtain⟨p,q,hA0,hV,rfl,hfz,hnd⟩:=hW;have hA:DataW.TrodAll enc Tryz.prog W 0 (fun _=>true) true Tryz.f4.params.toList args.toList ds p:=hA0;rw [Tryz.params4]at hA hval;obtain⟨v0,vs0,d0,ds0,p0,q0,hargs,rfl,rfl,h0,r0⟩:=trodAll_cons hA;obtain⟨rfl,rfl,rfl⟩:=trodAll_nil r0;obtain rfl:args= #[v0]:=by cases args;simp_all
 obtain⟨rfl,rfl⟩:=trodVars_none hV;obtain⟨a0,rfl,rfl,rfl,b0⟩:=open_string Tryz.underlying9 (hval 0 9 v0 rfl rfl) h0;clear hA0;have hwalk:=law_MoveGets a0.data.toList W (bitsOk hL) (str_len b0);simp only [st_of]at hwalk;refine hwalk.mono fun e W' ⟨he,bel⟩=> ?_
 subst he;exact⟨_,rfl,law_post kids full (by rw [Tryz.params4];exact of_decide_eq_true (by kernel_rfl)) rfl hW' bel rfl rfl (trodAll_mk1 (shut_bool Tryz.underlying4 _))⟩
theorem zGw(os:Os):laidMet Tryz.prog Rows.moveGetsRow.laid ((z6X os).forCall (fun _ _=>0) ⟨#[],#[.string ByteArray.empty],[]⟩).memory:=
 laidMet_of_run' 8 (by kernel_rfl) (by kernel_rfl)
theorem reads(os:Os){H:Type}(enc:TypeId×Value→H):∃places,DataW.whole enc Tryz.prog ((z6X os).forCall (fun _ _=>0) ⟨#[],#[.string ByteArray.empty],[]⟩).memory Tryz.f4.params.toList Rows.moveGetsSpec.vars false (#[.string ByteArray.empty]:Array Value).toList 8=some ([.lit (.string [])],[],places):=
 ⟨[],by kernel_rfl⟩
theorem lifted(os:Os)(started:os.Started)(H:Type)(enc:TypeId×Value→H)(F:Stop.Interp):
 ReturnsInHanded {} Tryz.checked os 4 .any ((OpenSpec.ofChange Rows.moveGetsSpec).preRow enc Tryz.prog Tryz.f4 Rows.moveGetsRow.domain false Rows.moveGetsRow.laid) (((OpenSpec.ofChange Rows.moveGetsSpec).at F).post enc Tryz.prog Tryz.f4 false true false false):=by
 obtain⟨places,hx⟩:=reads os enc;refine returnsInHanded_of_row (C:=Tryz.checked) (s:=OpenSpec.ofChange Rows.moveGetsSpec) own started (by kernel_rfl) Tryz.func4
  (witness_row_at (enc:=enc) (C:=Tryz.checked) false (z6X os) #[.string ByteArray.empty] rfl (by kernel_rfl) (by kernel_rfl) (by kernel_rfl)
    (OpenSpec.preRow_of_cond 8 hx (by kernel_rfl) (fun k hk=>by cases hk) (by kernel_rfl) (zGw os))) ?_
 intro W base args ds gs before hval hW _ _ _ hL _ _;exact zGO H enc W base args ds gs before hval hW hL
theorem said:Rows.MoveGetsSaid:=
 OpenClaim.holds_of_cond 4 Tryz.f4 rfl rfl rfl rfl rfl rfl rfl ⟨rfl,rfl,rfl,rfl,rfl⟩ rfl rfl rfl rfl rfl (by kernel_rfl) Tryz.func4 (by kernel_rfl)
  (of_decide_eq_true (by kernel_rfl)) (by unfold Func.isWrapper;first|(rw [if_pos (by decide+kernel)];kernel_rfl)|(rw [if_neg (by decide+kernel)];exact⟨rfl,rfl⟩))
  (fun os started H enc _ F=>by rw [OpenClaim.pre_eq_preRow];exact lifted os started H enc F)
theorem plain(f:FuncId)(fn:Func)(hf:Tryz.pinned.checked.prog.funcNamed "lapstone/lapstonelaw28.MoveGets" =some f)(hfn:Tryz.pinned.checked.prog.funcs[f]? =some fn):
 false=Tryz.pinned.checked.prog.looks []∧∀ (j:Nat) t,fn.params[j]? =some t→Tryz.pinned.checked.prog.wantsStandIn t=false:=by
 obtain rfl:f=4:=Option.some.inj ((show Tryz.prog.funcNamed "lapstone/lapstonelaw28.MoveGets" =some 4 by kernel_rfl).symm.trans hf) |>.symm;obtain rfl:fn=Tryz.f4:=(Option.some.inj (Tryz.func4.symm.trans hfn)).symm;refine⟨by kernel_rfl,fun j t ht=> ?_⟩;rw [Tryz.params4]at ht;have hm:=Array.mem_of_getElem? ht;simp only [List.mem_toArray,List.mem_cons,List.not_mem_nil,or_false]at hm;subst hm
 ·exact(show Tryz.prog.wantsStandIn 9=false by kernel_rfl)
theorem card:Rows.MoveGetsCardSaid:=
 Claim7.holds_tied_plain_at .later [] _ _ _ _ said (fun _ h=>by cases h) (by kernel_rfl) (fun _ h=>by cases h) moveGets_row_tie rfl ⟨rfl,rfl⟩ (by kernel_rfl) rfl plain (by kernel_rfl)
#print axioms card
end
end Go.Proofs.YtdkobefpnjbgnaaGreatDoor.moveGets
